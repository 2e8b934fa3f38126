/-
  Contracts: expressions of any types, names and types.
-/
import Derived.Test.YtkibinkahpgboaaDoorUDa
namespace Go.AM
set_option maxRecDepth 100000
set_option linter.unusedSimpArgs false
set_option linter.unusedVariables false
abbrev dpt (n : Nat) : Int := (n : Int) - 1
theorem dpt1 (n : Nat) (hn : n ≤ 500) : IntKind.i64.wrap (dpt (n + 2) - 1) = dpt (n + 1) := by rw [IntKind.wrap_i64]; simp only [dpt]; omega
theorem dpt2 (n : Nat) (hn : n ≤ 500) : IntKind.i64.wrap (dpt (n + 2) - 2) = dpt n := by rw [IntKind.wrap_i64]; simp only [dpt]; omega
theorem c_Expr : ∀ (n : Nat), n ≤ 500 → RecE n (n + 2) (dpt n)
  | 0, _, t, p, w, hp => c_ExprB t p w _ (by decide) (by decide) hp.few1 hp.cols
  | 1, _, t, p, w, hp => by
    obtain ⟨e, t', h, hc⟩ := c_ExprB t p w (dpt 1) (by decide) (by decide) hp.few1 hp.cols
    exact ⟨e, t', h.mono, hc⟩
  | n + 2, hn, t, p, w, hp => by
    have h1 := c_Expr (n + 1) (by omega)
    have h2 := c_Expr n (by omega)
    have e1 := dpt1 n (by omega)
    have e2 := dpt2 n (by omega)
    have hf1 : RecE (n + 1) (n + 3) (IntKind.i64.wrap (dpt (n + 2) - 1)) := by rw [e1]; exact h1
    have hf2 : RecE (n + 1) (n + 3) (IntKind.i64.wrap (dpt (n + 2) - 2)) := by
      rw [e2]
      intro t p w hp
      obtain ⟨e, t', h, hc⟩ := h2 t p w hp.less
      exact ⟨e, t', h.mono, hc⟩
    exact c_ExprF t p w (dpt (n + 2)) (n + 2) (by simp only [dpt]; simp; omega) (by simp only [dpt]; simp; omega) hp.few1 hp.cols (fun t w => hf1 t p w hp.less)
      (fun t k => c_query t p k (n + 1) (n + 3) (dpt (n + 2)) hp hf1 hf2) (fun t => c_condition t p (n + 1) (n + 3) (dpt (n + 2)) hp.less hf1)
theorem x_world_Tape_Expr__d1 (t : Tp) (p : Pl) (w : Int) (hp : p.OkN 2) : ∃ (e : X) (t' : Tp), XOk 4 e ∧ ACallsTo E0 S.world_Tape_Expr [.p 0 0, p.av, iv w, iv 1] [.box t.cells] e.av [.box t'.cells] := c_Expr 2 (by omega) t p w hp
theorem x_world_Tape_Expr__d2 (t : Tp) (p : Pl) (w : Int) (hp : p.OkN 3) : ∃ (e : X) (t' : Tp), XOk 5 e ∧ ACallsTo E0 S.world_Tape_Expr [.p 0 0, p.av, iv w, iv 2] [.box t.cells] e.av [.box t'.cells] := c_Expr 3 (by omega) t p w hp
theorem x_world_Tape_Expr__d4 (t : Tp) (p : Pl) (w : Int) (hp : p.OkN 5) : ∃ (e : X) (t' : Tp), XOk 7 e ∧ ACallsTo E0 S.world_Tape_Expr [.p 0 0, p.av, iv w, iv 4] [.box t.cells] e.av [.box t'.cells] := c_Expr 5 (by omega) t p w hp
end Go.AM

namespace Go.AM
set_option maxRecDepth 100000
set_option maxHeartbeats 1000000
set_option linter.unusedSimpArgs false
set_option linter.unusedVariables false
def frNull : Fr := ⟨⟨#[]⟩, false, [], []⟩
theorem getD_at {α : Type} {l : List α} {k : Nat} (d : α) (h : k < l.length) : l[k]? = some (l.getD k d) := by
  rw [List.getD_eq_getElem?_getD, List.getElem?_eq_getElem h]; rfl
noncomputable def L_sres (frs : List Fr) (q n : Str) (k : Nat)  : Cfg := loopAt B.scope_Resolve 0 [(0, fsl frs), (1, sv q), (2, sv n), (9, iv (pm1 k))] []
def sres (frs : List Fr) (q n : Str) : Nat → Int × Int × Bool
  | 0 =>
    (0, 0, false)
  | k + 1 =>
    bif ByteArray.toList q == (ByteArray.mk #[]).toList then
      bif (frs.getD k frNull).strict then
        sres frs q n (k)
      else
        bif decide (0 ≤ idxF (fun c => colC c n) (Sch.mk (ByteArray.mk #[]) (frs.getD k frNull).cols).cols 0) then
          (pm1 (k + 1), idxF (fun c => colC c n) (Sch.mk (ByteArray.mk #[]) (frs.getD k frNull).cols).cols 0, true)
        else
          sres frs q n (k)
    else
      bif !ByteArray.toList (frs.getD k frNull).name == ByteArray.toList q then
        sres frs q n (k)
      else
        bif decide (0 ≤ idxF (fun c => colC c n) (Sch.mk (ByteArray.mk #[]) (frs.getD k frNull).cols).cols 0) then
          (pm1 (k + 1), idxF (fun c => colC c n) (Sch.mk (ByteArray.mk #[]) (frs.getD k frNull).cols).cols 0, true)
        else
          sres frs q n (k)
theorem k_sres_loop (frs : List Fr) (q n : Str) (hl : Short frs) (hc : ∀ f ∈ frs, Short f.cols) : ∀ (k : Nat), k ≤ 1000000000 → k ≤ frs.length → Good E0 B.scope_Resolve [] (L_sres frs q n k ) (Shut 0 fun r h => r = (.tup [iv (sres frs q n k ).1, iv (sres frs q n k ).2.1, bv (sres frs q n k ).2.2]) ∧ h = []) := by
  intro k
  induction k with
  | zero =>
    intro  hk hk2
    simp only [sres]
    refine good_unroll ?_
    exact wkr [sb (rfl : false = false)] (by kernel_rfl)
  | succ k ih =>
    intro  hk hk2
    have h0 : decide ((0 : Int) ≤ ((k : Nat) : Int)) = true := by simp
    have hw := wrap_pm1 k (by omega)
    have hx := getD_at (l := frs) (k := k) frNull (by omega); have hcx := hc _ (List.mem_of_getElem? hx)
    simp only [sres]
    refine good_unroll ?_
    cases h1 : ByteArray.toList q == (ByteArray.mk #[]).toList
    · cases h2 : !ByteArray.toList (frs.getD k frNull).name == ByteArray.toList q
      · cases h3 : decide (0 ≤ idxF (fun c => colC c n) (Sch.mk (ByteArray.mk #[]) (frs.getD k frNull).cols).cols 0)
        · exact wkl [sb (rfl : true = true), se (elAt_map (Fr.cells) hx rfl), sb h1, sg (congrArg Bool.not h1), sb h2, sc (k_schema_Find (Sch.mk (ByteArray.mk #[]) (frs.getD k frNull).cols) (n) (by first | assumption | omega | (simp; done) | (simp; omega))), sb h3, si hw] [0, 1, 2, 9] 0 (by kernel_rfl) (ih  (by omega) (by first | assumption | (simp; done) | (simp; omega) | omega | (simp at *; omega)))
        · exact wkr [sb (rfl : true = true), se (elAt_map (Fr.cells) hx rfl), sb h1, sg (congrArg Bool.not h1), sb h2, sc (k_schema_Find (Sch.mk (ByteArray.mk #[]) (frs.getD k frNull).cols) (n) (by first | assumption | omega | (simp; done) | (simp; omega))), sb h3] (by kernel_rfl)
      · exact wkl [sb (rfl : true = true), se (elAt_map (Fr.cells) hx rfl), sb h1, sg (congrArg Bool.not h1), sb h2, si hw] [0, 1, 2, 9] 0 (by kernel_rfl) (ih  (by omega) (by first | assumption | (simp; done) | (simp; omega) | omega | (simp at *; omega)))
    · cases h4 : (frs.getD k frNull).strict
      · cases h5 : decide (0 ≤ idxF (fun c => colC c n) (Sch.mk (ByteArray.mk #[]) (frs.getD k frNull).cols).cols 0)
        · exact wkl [sb (rfl : true = true), se (elAt_map (Fr.cells) hx rfl), sg h1, sg h4, sb (congrArg Bool.not h1), sc (k_schema_Find (Sch.mk (ByteArray.mk #[]) (frs.getD k frNull).cols) (n) (by first | assumption | omega | (simp; done) | (simp; omega))), sb h5, si hw] [0, 1, 2, 9] 0 (by kernel_rfl) (ih  (by omega) (by first | assumption | (simp; done) | (simp; omega) | omega | (simp at *; omega)))
        · exact wkr [sb (rfl : true = true), se (elAt_map (Fr.cells) hx rfl), sg h1, sg h4, sb (congrArg Bool.not h1), sc (k_schema_Find (Sch.mk (ByteArray.mk #[]) (frs.getD k frNull).cols) (n) (by first | assumption | omega | (simp; done) | (simp; omega))), sb h5] (by kernel_rfl)
      · exact wkl [sb (rfl : true = true), se (elAt_map (Fr.cells) hx rfl), sg h1, sb h4, si hw] [0, 1, 2, 9] 0 (by kernel_rfl) (ih  (by omega) (by first | assumption | (simp; done) | (simp; omega) | omega | (simp at *; omega)))
theorem wrap_len {α : Type} (f : α → List AV) (l : List α) (h : Short l) : IntKind.i64.wrap ((((l.map f).length : Nat) : Int) - 1) = pm1 l.length := by
  rw [List.length_map]; exact wrap_pm1 _ (by simp only [Short] at h; omega)
def sResolve (frs : List Fr) (q n : Str) : Int × Int × Bool :=
  sres frs q n (frs.length)
theorem k_scope_Resolve (frs : List Fr) (q n : Str) (hl : Short frs) (hc : ∀ f ∈ frs, Short f.cols) (hw0 : IntKind.i64.wrap ((((frs.map Fr.cells).length : Nat) : Int) - 1) = pm1 frs.length) : ACallsTo E0 S.scope_Resolve [fsl frs, sv q, sv n] [] (.tup [iv (sResolve frs q n).1, iv (sResolve frs q n).2.1, bv (sResolve frs q n).2.2]) [] := by
  unfold sResolve
  exact wkc At.scope_Resolve [si hw0] [0, 1, 2, 9] 0 (by kernel_rfl) (by have ih := k_sres_loop frs q n hl hc frs.length (by simp only [Short] at hl; omega) (Nat.le_refl _); exact ih)
noncomputable def L_rresO (frs : List Fr) (q n : Str) (k : Nat) : Cfg := loopAt B.ref14_Resolve 0 [(0, fsl frs), (1, sv q), (2, sv n), (9, iv (pm1 k))] []
noncomputable def L_rresI (frs : List Fr) (q n : Str) (k : Nat) (f : Fr) (els : Int × Int × Bool) (j : Nat)  : Cfg := loopAt B.ref14_Resolve 1 [(0, fsl frs), (1, sv q), (2, sv n), (9, iv (pm1 (k + 1))), (41, .sl (f.cols.map Col.cells)), (42, iv ((f.cols.map Col.cells).length : Nat)), (43, iv (j : Nat))] []
def rresI (frs : List Fr) (q n : Str) (k : Nat) (f : Fr) (els : Int × Int × Bool) : List (Col) → Nat → Int × Int × Bool
  | [], j =>
    els
  | x :: r, j =>
    bif ByteArray.toList x.name == ByteArray.toList n then
      (pm1 (k + 1), (↑j : Int), true)
    else
      rresI frs q n k f els r (j + 1)
theorem k_rresI_loop (frs : List Fr) (q n : Str) (k : Nat) (f : Fr) (els : Int × Int × Bool) (hl : Short f.cols) (hwk : IntKind.i64.wrap (((k : Nat) : Int) - 1) = pm1 k) (hels : Good E0 B.ref14_Resolve [] (L_rresO frs q n k) (Shut 0 fun r h => r = .tup [iv els.1, iv els.2.1, bv els.2.2] ∧ h = [])) : ∀ (kk j : Nat), j + kk = (f.cols).length → Good E0 B.ref14_Resolve [] (L_rresI frs q n k f els j ) (Shut 0 fun r h => r = (.tup [iv (rresI frs q n k f els ((f.cols).drop j) j ).1, iv (rresI frs q n k f els ((f.cols).drop j) j ).2.1, bv (rresI frs q n k f els ((f.cols).drop j) j ).2.2]) ∧ h = []) := by
  intro kk
  induction kk with
  | zero =>
    intro j  hi 
    have h0 : decide (((j : Nat) : Int) < (((f.cols.map Col.cells).length : Nat) : Int)) = false := by simp; omega
    have e0 : (f.cols).drop j = [] := List.drop_of_length_le (by omega)
    rw [e0]
    simp only [rresI]
    refine good_unroll ?_
    exact wkl [sb h0, si hwk] [0, 1, 2, 9] 0 (by kernel_rfl) (hels)
  | succ kk ih =>
    intro j  hi 
    obtain ⟨x, hx⟩ := ex_at (l := f.cols) (i := j) (by omega)
    have h0 : decide (((j : Nat) : Int) < (((f.cols.map Col.cells).length : Nat) : Int)) = true := by simp; omega
    have hw := wrap_nat j (by first | omega | (simp only [Short, Few] at *; omega))
    rw [drop_at hx]
    simp only [rresI]
    refine good_unroll ?_
    cases h1 : ByteArray.toList x.name == ByteArray.toList n
    · exact wkl [sb h0, se (elAt_map (Col.cells) hx rfl), sb h1, si hw] [0, 1, 2, 9, 41, 42, 43] 0 (by kernel_rfl) (ih (j + 1) (by omega) )
    · exact wkr [sb h0, se (elAt_map (Col.cells) hx rfl), sb h1] (by kernel_rfl)

def rres (frs : List Fr) (q n : Str) : Nat → Int × Int × Bool
  | 0 =>
    (0, 0, false)
  | k + 1 =>
    bif ByteArray.toList q == (ByteArray.mk #[]).toList then
      bif (frs.getD k frNull).strict then
        rres frs q n (k)
      else
        rresI frs q n k (frs.getD k frNull) (rres frs q n k) (frs.getD k frNull).cols 0
    else
      bif !ByteArray.toList (frs.getD k frNull).name == ByteArray.toList q then
        rres frs q n (k)
      else
        rresI frs q n k (frs.getD k frNull) (rres frs q n k) (frs.getD k frNull).cols 0
theorem k_rres_loop (frs : List Fr) (q n : Str) (hl : Short frs) (hc : ∀ f ∈ frs, Short f.cols) : ∀ (k : Nat), k ≤ 1000000000 → k ≤ frs.length → Good E0 B.ref14_Resolve [] (L_rresO frs q n k ) (Shut 0 fun r h => r = (.tup [iv (rres frs q n k ).1, iv (rres frs q n k ).2.1, bv (rres frs q n k ).2.2]) ∧ h = []) := by
  intro k
  induction k with
  | zero =>
    intro  hk hk2
    simp only [rres]
    refine good_unroll ?_
    exact wkr [sb (rfl : false = false)] (by kernel_rfl)
  | succ k ih =>
    intro  hk hk2
    have h0 : decide ((0 : Int) ≤ ((k : Nat) : Int)) = true := by simp
    have hw := wrap_pm1 k (by omega)
    have hx := getD_at (l := frs) (k := k) frNull (by omega); have hcx := hc _ (List.mem_of_getElem? hx)
    simp only [rres]
    refine good_unroll ?_
    cases h1 : ByteArray.toList q == (ByteArray.mk #[]).toList
    · cases h2 : !ByteArray.toList (frs.getD k frNull).name == ByteArray.toList q
      · exact wkl [sb (rfl : true = true), se (elAt_map (Fr.cells) hx rfl), sb h1, sg (congrArg Bool.not h1), sb h2] [0, 1, 2, 9, 41, 42, 43] 0 (by kernel_rfl) (by have ih2 := k_rresI_loop frs q n k (frs.getD k frNull) (rres frs q n k) hcx hw (ih (by omega) (by omega)) (frs.getD k frNull).cols.length 0 (by simp); exact ih2)
      · exact wkl [sb (rfl : true = true), se (elAt_map (Fr.cells) hx rfl), sb h1, sg (congrArg Bool.not h1), sb h2, si hw] [0, 1, 2, 9] 0 (by kernel_rfl) (ih  (by omega) (by first | assumption | (simp; done) | (simp; omega) | omega | (simp at *; omega)))
    · cases h3 : (frs.getD k frNull).strict
      · exact wkl [sb (rfl : true = true), se (elAt_map (Fr.cells) hx rfl), sg h1, sg h3, sb (congrArg Bool.not h1)] [0, 1, 2, 9, 41, 42, 43] 0 (by kernel_rfl) (by have ih2 := k_rresI_loop frs q n k (frs.getD k frNull) (rres frs q n k) hcx hw (ih (by omega) (by omega)) (frs.getD k frNull).cols.length 0 (by simp); exact ih2)
      · exact wkl [sb (rfl : true = true), se (elAt_map (Fr.cells) hx rfl), sg h1, sb h3, si hw] [0, 1, 2, 9] 0 (by kernel_rfl) (ih  (by omega) (by first | assumption | (simp; done) | (simp; omega) | omega | (simp at *; omega)))
def rResolve (frs : List Fr) (q n : Str) : Int × Int × Bool :=
  rres frs q n (frs.length)
theorem k_ref14_Resolve (frs : List Fr) (q n : Str) (hl : Short frs) (hc : ∀ f ∈ frs, Short f.cols) (hw0 : IntKind.i64.wrap ((((frs.map Fr.cells).length : Nat) : Int) - 1) = pm1 frs.length) : ACallsTo E0 S.ref14_Resolve [fsl frs, sv q, sv n] [] (.tup [iv (rResolve frs q n).1, iv (rResolve frs q n).2.1, bv (rResolve frs q n).2.2]) [] := by
  unfold rResolve
  exact wkc At.ref14_Resolve [si hw0] [0, 1, 2, 9] 0 (by kernel_rfl) (by have ih := k_rres_loop frs q n hl hc frs.length (by simp only [Short] at hl; omega) (Nat.le_refl _); exact ih)
noncomputable def L_rsrcL (tb : List Tb) (n : Str) (i : Nat)  : Cfg := loopAt B.ref14_Source 0 [(1, sv n), (4, .p 0 0), (9, tsl tb), (10, iv ((tb.map Tb.cells).length : Nat)), (11, iv (i : Nat))] [.box [sv ⟨#[]⟩, .nl]]
def rsrcL (tb : List Tb) (n : Str) : List (Tb) → Nat → Sch × Bool
  | [], i =>
    (Sch.mk (ByteArray.mk #[]) [], false)
  | x :: r, i =>
    bif ByteArray.toList x.sch.name == ByteArray.toList n then
      (x.sch, true)
    else
      rsrcL tb n r (i + 1)
theorem k_rsrcL_loop (tb : List Tb) (n : Str) (hl : Short tb) (hc : ∀ x ∈ tb, Short x.sch.cols) : ∀ (kk i : Nat), i + kk = (tb).length → Good E0 B.ref14_Source [] (L_rsrcL tb n i ) (Shut 0 fun r h => r = (.tup [(rsrcL tb n ((tb).drop i) i ).1.av, bv (rsrcL tb n ((tb).drop i) i ).2]) ∧ h = []) := by
  intro kk
  induction kk with
  | zero =>
    intro i  hi 
    have h0 : decide (((i : Nat) : Int) < (((tb.map Tb.cells).length : Nat) : Int)) = false := by simp; omega
    have e0 : (tb).drop i = [] := List.drop_of_length_le (by omega)
    rw [e0]
    simp only [rsrcL]
    refine good_unroll ?_
    exact wkr [sb h0] (by kernel_rfl)
  | succ kk ih =>
    intro i  hi 
    obtain ⟨x, hx⟩ := ex_at (l := tb) (i := i) (by omega)
    have h0 : decide (((i : Nat) : Int) < (((tb.map Tb.cells).length : Nat) : Int)) = true := by simp; omega
    have hw := wrap_nat i (by first | omega | (simp only [Short, Few] at *; omega))
    have hcx := hc x (List.mem_of_getElem? hx)
    rw [drop_at hx]
    simp only [rsrcL]
    refine good_unroll ?_
    cases h1 : ByteArray.toList x.sch.name == ByteArray.toList n
    · exact wkl [sb h0, se (elAt_map (Tb.cells) hx rfl), sb h1, si hw] [1, 4, 9, 10, 11] 1 (by kernel_rfl) (ih (i + 1) (by omega) )
    · exact wkr [sqx ((True ∧ (List.map Col.cells x.sch.cols).length = (List.map Col.cells x.sch.cols).length ∧ True) ∧ True ∧ True), sb h0, se (elAt_map (Tb.cells) hx rfl), sb h1, sqx (AllLen (List.map Col.cells x.sch.cols) 4 ∧ ((List.map Col.cells x.sch.cols).length * 32).le 140737488355328)] (by kernel_rfl)
def rSource (tb : List Tb) (n : Str) : Sch × Bool :=
  rsrcL tb n tb (0)
theorem k_ref14_Source (tb : List Tb) (n : Str) (hl : Short tb) (hc : ∀ x ∈ tb, Short x.sch.cols) : ACallsTo E0 S.ref14_Source [tsl tb, sv n] [] (.tup [(rSource tb n).1.av, bv (rSource tb n).2]) [] := by
  unfold rSource
  exact wkc At.ref14_Source [] [1, 4, 9, 10, 11] 1 (by kernel_rfl) (by have ih := k_rsrcL_loop tb n hl hc tb.length 0 (by simp); exact ih)
def rInside (frs : List Fr) (s : Sch) (v : List V) : (List Fr) :=
  frs ++ [Fr.mk s.name false s.cols v]
theorem k_ref14_Inside (frs : List Fr) (s : Sch) (v : List V) (hl : Short frs) : ACallsTo E0 S.ref14_Inside [fsl frs, s.av, vsl v] [] (fsl (rInside frs s v)) [] := by
  unfold rInside
  exact (by (try simp only [X.av, Qy.av, V.av, Tb.av, Sch.av, Pl.av, xsl, fsl, vsl, tsl, List.map_append, List.map_cons, List.map_nil, V.cells, Col.cells, Rw.cells, Tb.cells, Fr.cells, Sch.cells, Pl.cells, cellsX_app, cellsX_cons, cellsX_nil, cellsQ_cons, cellsQ_nil, X.cells, Qy.cells, X.args_mk, X.sub_mk, Qy.items_mk, Qy.wh_mk, xCol, xLit, xBin, xNeg]); exact wk At.ref14_Inside [sqx ((List.map Fr.cells frs ++ [[sv s.name, bv false, AV.sl (List.map Col.cells s.cols), AV.sl (List.map V.cells v)]]).length = (List.map Fr.cells frs ++ [[sv s.name, bv false, AV.sl (List.map Col.cells s.cols), AV.sl (List.map V.cells v)]]).length), sqx (AllLen (List.map Fr.cells frs) 4 ∧ ((List.map Fr.cells frs).length * 72).le 140737488355328), sqx (AllLen [[sv s.name, bv false, AV.sl (List.map Col.cells s.cols), AV.sl (List.map V.cells v)]] 4 ∧ (List.map Fr.cells frs).length = (List.map Fr.cells frs).length ∧ (((List.map Fr.cells frs).length + [[sv s.name, bv false, AV.sl (List.map Col.cells s.cols), AV.sl (List.map V.cells v)]].length) * 72).le 140737488355328)] (by kernel_rfl))
def rfits (t w : Int) : Bool :=
  bif t == 0 then
    true
  else
    t == w
theorem k_ref14_fits (t w : Int)  : ACallsTo E0 S.ref14_fits [iv t, iv w] [] (bv (rfits t w)) [] := by
  unfold rfits
  cases h1 : t == 0
  · exact wk At.ref14_fits [sg h1] (by kernel_rfl)
  · exact wk At.ref14_fits [sb h1] (by kernel_rfl)
noncomputable def L_rfitL (l : List Int) (want give : Int) (i : Nat)  : Cfg := loopAt B.ref14_result 1 [(6, iv want), (7, iv give), (54, isl l), (55, iv ((l.map fun n => [iv n]).length : Nat)), (56, iv (i : Nat))] []
def rfitL (l : List Int) (want give : Int) : List (Int) → Nat → Int × Int
  | [], i =>
    (give, 0)
  | x :: r, i =>
    bif !rfits x want then
      (0, 5)
    else
      rfitL l want give r (i + 1)
theorem k_rfitL_loop (l : List Int) (want give : Int) (hl : Short l) : ∀ (kk i : Nat), i + kk = (l).length → Good E0 B.ref14_result [] (L_rfitL l want give i ) (Shut 0 fun r h => r = (.tup [iv (rfitL l want give ((l).drop i) i ).1, iv (rfitL l want give ((l).drop i) i ).2]) ∧ h = []) := by
  intro kk
  induction kk with
  | zero =>
    intro i  hi 
    have h0 : decide (((i : Nat) : Int) < (((l.map fun n => [iv n]).length : Nat) : Int)) = false := by simp; omega
    have e0 : (l).drop i = [] := List.drop_of_length_le (by omega)
    rw [e0]
    simp only [rfitL]
    refine good_unroll ?_
    exact wkr [sb h0] (by kernel_rfl)
  | succ kk ih =>
    intro i  hi 
    obtain ⟨x, hx⟩ := ex_at (l := l) (i := i) (by omega)
    have h0 : decide (((i : Nat) : Int) < (((l.map fun n => [iv n]).length : Nat) : Int)) = true := by simp; omega
    have hw := wrap_nat i (by first | omega | (simp only [Short, Few] at *; omega))
    rw [drop_at hx]
    simp only [rfitL]
    refine good_unroll ?_
    cases h1 : !rfits x want
    · exact wkl [sb h0, se (elAt_map (fun n => [iv n]) hx rfl), sc (k_ref14_fits (x) (want)), sb h1, si hw] [6, 7, 54, 55, 56] 0 (by kernel_rfl) (ih (i + 1) (by omega) )
    · exact wkr [sb h0, se (elAt_map (fun n => [iv n]) hx rfl), sc (k_ref14_fits (x) (want)), sb h1] (by kernel_rfl)
noncomputable def L_rwantL (l : List Int) (i : Nat) (want : Int) : Cfg := loopAt B.ref14_result 0 [(1, isl l), (6, iv want), (7, iv 2), (12, isl l), (13, iv ((l.map fun n => [iv n]).length : Nat)), (14, iv (i : Nat))] []
def rwantL (l : List Int) : List (Int) → Nat → (Int) → Int × Int
  | [], i, want =>
    rfitL l (want) (2) l 0
  | x :: r, i, want =>
    bif x != 0 then
      rwantL l r (i + 1) (x)
    else
      rwantL l r (i + 1) (want)
theorem k_rwantL_loop (l : List Int) (hl : Short l) : ∀ (kk i : Nat) (want : Int), i + kk = (l).length → Good E0 B.ref14_result [] (L_rwantL l i want) (Shut 0 fun r h => r = (.tup [iv (rwantL l ((l).drop i) i want).1, iv (rwantL l ((l).drop i) i want).2]) ∧ h = []) := by
  intro kk
  induction kk with
  | zero =>
    intro i want hi 
    have h0 : decide (((i : Nat) : Int) < (((l.map fun n => [iv n]).length : Nat) : Int)) = false := by simp; omega
    have e0 : (l).drop i = [] := List.drop_of_length_le (by omega)
    rw [e0]
    simp only [rwantL]
    refine good_unroll ?_
    exact wkl [sb h0] [6, 7, 54, 55, 56] 0 (by kernel_rfl) (k_rfitL_loop l (want) (2) hl l.length 0 (by simp))
  | succ kk ih =>
    intro i want hi 
    obtain ⟨x, hx⟩ := ex_at (l := l) (i := i) (by omega)
    have h0 : decide (((i : Nat) : Int) < (((l.map fun n => [iv n]).length : Nat) : Int)) = true := by simp; omega
    have hw := wrap_nat i (by first | omega | (simp only [Short, Few] at *; omega))
    rw [drop_at hx]
    simp only [rwantL]
    refine good_unroll ?_
    cases h1 : x != 0
    · exact wkl [sb h0, se (elAt_map (fun n => [iv n]) hx rfl), sb h1, si hw] [1, 6, 7, 12, 13, 14] 0 (by kernel_rfl) (ih (i + 1) (want) (by omega) )
    · exact wkl [sb h0, se (elAt_map (fun n => [iv n]) hx rfl), sb h1, si hw] [1, 6, 7, 12, 13, 14] 0 (by kernel_rfl) (ih (i + 1) (x) (by omega) )
def rresult (e : X) (l : List Int) : Int × Int :=
  bif e.kind == 6 then
    (2, 0)
  else
    bif e.kind == 3 then
      rfitL l (2) (2) l 0
    else
      bif e.kind == 5 then
        bif decide (e.op ≤ 2) then
          rfitL l (2) (2) l 0
        else
          bif e.kind == 4 then
            rfitL l (1) (1) l 0
          else
            bif decide (9 ≤ e.op) then
              rfitL l (1) (1) l 0
            else
              rwantL l l 0 (-1)
      else
        bif e.kind == 4 then
          rfitL l (1) (1) l 0
        else
          rwantL l l 0 (-1)
theorem k_ref14_result (e : X) (l : List Int) (hl : Short l) : ACallsTo E0 S.ref14_result [e.av, isl l] [] (.tup [iv (rresult e l).1, iv (rresult e l).2]) [] := by
  unfold rresult
  cases h1 : e.kind == 6
  · cases h2 : e.kind == 3
    · cases h3 : e.kind == 5
      · cases h4 : e.kind == 4
        · exact wkc At.ref14_result [sb h1, sg h2, sb h3, sg h4, sb h3] [1, 6, 7, 12, 13, 14] 0 (by kernel_rfl) (by have ih := k_rwantL_loop l hl l.length 0 (-1) (by simp); exact ih)
        · exact wkc At.ref14_result [sb h1, sg h2, sb h3, sb h4] [6, 7, 54, 55, 56] 0 (by kernel_rfl) (by have ih := k_rfitL_loop l (1) (1) hl l.length 0 (by simp); exact ih)
      · cases h5 : decide (e.op ≤ 2)
        · cases h6 : e.kind == 4
          · cases h7 : decide (9 ≤ e.op)
            · exact wkc At.ref14_result [sb h1, sg h2, sg h3, sb h5, sg h6, sg h3, sb h7] [1, 6, 7, 12, 13, 14] 0 (by kernel_rfl) (by have ih := k_rwantL_loop l hl l.length 0 (-1) (by simp); exact ih)
            · exact wkc At.ref14_result [sb h1, sg h2, sg h3, sb h5, sg h6, sg h3, sb h7] [6, 7, 54, 55, 56] 0 (by kernel_rfl) (by have ih := k_rfitL_loop l (1) (1) hl l.length 0 (by simp); exact ih)
          · exact wkc At.ref14_result [sb h1, sg h2, sg h3, sb h5, sb h6] [6, 7, 54, 55, 56] 0 (by kernel_rfl) (by have ih := k_rfitL_loop l (1) (1) hl l.length 0 (by simp); exact ih)
        · exact wkc At.ref14_result [sb h1, sg h2, sg h3, sb h5] [6, 7, 54, 55, 56] 0 (by kernel_rfl) (by have ih := k_rfitL_loop l (2) (2) hl l.length 0 (by simp); exact ih)
    · exact wkc At.ref14_result [sb h1, sb h2] [6, 7, 54, 55, 56] 0 (by kernel_rfl) (by have ih := k_rfitL_loop l (2) (2) hl l.length 0 (by simp); exact ih)
  · exact wk At.ref14_result [sb h1] (by kernel_rfl)
end Go.AM

namespace Go.AM
set_option maxRecDepth 100000
set_option maxHeartbeats 1000000
set_option linter.unusedSimpArgs false
set_option linter.unusedVariables false
def shape1 (kind op : Int) (xs : List X) (qs : List Qy) (st : Bool) (it wh : List X) : Bool :=
  bif kind == 1 then
    bif (↑(cellsX xs).length : Int) == 0 then
      (↑(cellsQ qs).length : Int) == 0
    else
      false
  else
    bif kind == 2 then
      bif (↑(cellsX xs).length : Int) == 0 then
        (↑(cellsQ qs).length : Int) == 0
      else
        false
    else
      bif kind == 3 then
        bif (↑(cellsX xs).length : Int) == 1 then
          (↑(cellsQ qs).length : Int) == 0
        else
          false
      else
        bif kind == 4 then
          bif (↑(cellsX xs).length : Int) == 1 then
            (↑(cellsQ qs).length : Int) == 0
          else
            false
        else
          bif kind == 6 then
            bif (↑(cellsX xs).length : Int) == 1 then
              (↑(cellsQ qs).length : Int) == 0
            else
              false
          else
            bif kind == 5 then
              bif decide (op < 1) then
                false
              else
                bif decide (13 < op) then
                  false
                else
                  bif (↑(cellsX xs).length : Int) == 2 then
                    (↑(cellsQ qs).length : Int) == 0
                  else
                    false
            else
              bif kind == 7 then
                bif (↑(cellsX xs).length : Int) == 3 then
                  (↑(cellsQ qs).length : Int) == 0
                else
                  false
              else
                bif kind == 8 then
                  bif (↑(cellsX xs).length : Int) == 0 then
                    bif (↑(cellsQ qs).length : Int) == 1 then
                      bif (↑(cellsX it).length : Int) == 0 then
                        decide ((↑(cellsX wh).length : Int) ≤ 1)
                      else
                        false
                    else
                      false
                  else
                    false
                else
                  bif kind == 9 then
                    bif (↑(cellsX xs).length : Int) == 0 then
                      bif (↑(cellsQ qs).length : Int) == 1 then
                        bif (↑(cellsX it).length : Int) == 0 then
                          decide ((↑(cellsX wh).length : Int) ≤ 1)
                        else
                          false
                      else
                        false
                    else
                      false
                  else
                    bif kind == 10 then
                      bif (↑(cellsX xs).length : Int) == 0 then
                        bif (↑(cellsQ qs).length : Int) == 1 then
                          bif (↑(cellsX it).length : Int) == 1 then
                            decide ((↑(cellsX wh).length : Int) ≤ 1)
                          else
                            false
                        else
                          false
                      else
                        false
                    else
                      bif kind == 11 then
                        bif (↑(cellsX xs).length : Int) == 0 then
                          bif (↑(cellsQ qs).length : Int) == 1 then
                            bif (↑(cellsX it).length : Int) == 1 then
                              decide ((↑(cellsX wh).length : Int) ≤ 1)
                            else
                              false
                          else
                            false
                        else
                          false
                      else
                        bif kind == 12 then
                          bif (↑(cellsX xs).length : Int) == 0 then
                            bif (↑(cellsQ qs).length : Int) == 1 then
                              bif (↑(cellsX it).length : Int) == 1 then
                                decide ((↑(cellsX wh).length : Int) ≤ 1)
                              else
                                false
                            else
                              false
                          else
                            false
                        else
                          false
theorem k_ref11_Shape__1 (kind op : Int) (xs : List X) (qs : List Qy) (st : Bool) (it wh : List X) (nt : Bool) (val : V) (tn nm : Str) (fm : Str) (hq : qs[0]? = some (Qy.mk st it fm wh)) : ACallsTo E0 S.ref11_Shape [X.av (.mk kind op nt val tn nm xs qs)] [] (bv (shape1 kind op xs qs st it wh)) [] := by
  unfold shape1
  cases h1 : kind == 1
  · cases h2 : kind == 2
    · cases h3 : kind == 3
      · cases h4 : kind == 4
        · cases h5 : kind == 6
          · cases h6 : kind == 5
            · cases h7 : kind == 7
              · cases h8 : kind == 8
                · cases h9 : kind == 9
                  · cases h10 : kind == 10
                    · cases h11 : kind == 11
                      · cases h12 : kind == 12
                        · exact wk At.ref11_Shape [sb h1, sb h2, sb h3, sb h4, sb h5, sb h6, sb h7, sb h8, sb h9, sb h10, sb h11, sb h12] (by kernel_rfl)
                        · cases h13 : (↑(cellsX xs).length : Int) == 0
                          · exact wk At.ref11_Shape [sb h1, sb h2, sb h3, sb h4, sb h5, sb h6, sb h7, sb h8, sb h9, sb h10, sb h11, sb h12, sb (rfl : false = false), sb h13] (by kernel_rfl)
                          · cases h14 : (↑(cellsQ qs).length : Int) == 1
                            · exact wk At.ref11_Shape [sb h1, sb h2, sb h3, sb h4, sb h5, sb h6, sb h7, sb h8, sb h9, sb h10, sb h11, sb h12, sb (rfl : false = false), sg h13, sb h14] (by kernel_rfl)
                            · cases h15 : (↑(cellsX it).length : Int) == 1
                              · exact wk At.ref11_Shape [sb h1, sb h2, sb h3, sb h4, sb h5, sb h6, sb h7, sb h8, sb h9, sb h10, sb h11, sb h12, sb (rfl : false = false), sg h13, sg h14, se (elAt_Q hq), sb h15] (by kernel_rfl)
                              · exact wk At.ref11_Shape [sb h1, sb h2, sb h3, sb h4, sb h5, sb h6, sb h7, sb h8, sb h9, sb h10, sb h11, sb h12, sb (rfl : false = false), sg h13, sg h14, se (elAt_Q hq), sg h15, se (elAt_Q hq)] (by kernel_rfl)
                      · cases h16 : (↑(cellsX xs).length : Int) == 0
                        · exact wk At.ref11_Shape [sb h1, sb h2, sb h3, sb h4, sb h5, sb h6, sb h7, sb h8, sb h9, sb h10, sb h11, sb (rfl : false = false), sb h16] (by kernel_rfl)
                        · cases h17 : (↑(cellsQ qs).length : Int) == 1
                          · exact wk At.ref11_Shape [sb h1, sb h2, sb h3, sb h4, sb h5, sb h6, sb h7, sb h8, sb h9, sb h10, sb h11, sb (rfl : false = false), sg h16, sb h17] (by kernel_rfl)
                          · cases h18 : (↑(cellsX it).length : Int) == 1
                            · exact wk At.ref11_Shape [sb h1, sb h2, sb h3, sb h4, sb h5, sb h6, sb h7, sb h8, sb h9, sb h10, sb h11, sb (rfl : false = false), sg h16, sg h17, se (elAt_Q hq), sb h18] (by kernel_rfl)
                            · exact wk At.ref11_Shape [sb h1, sb h2, sb h3, sb h4, sb h5, sb h6, sb h7, sb h8, sb h9, sb h10, sb h11, sb (rfl : false = false), sg h16, sg h17, se (elAt_Q hq), sg h18, se (elAt_Q hq)] (by kernel_rfl)
                    · cases h19 : (↑(cellsX xs).length : Int) == 0
                      · exact wk At.ref11_Shape [sb h1, sb h2, sb h3, sb h4, sb h5, sb h6, sb h7, sb h8, sb h9, sb h10, sb (rfl : false = false), sb h19] (by kernel_rfl)
                      · cases h20 : (↑(cellsQ qs).length : Int) == 1
                        · exact wk At.ref11_Shape [sb h1, sb h2, sb h3, sb h4, sb h5, sb h6, sb h7, sb h8, sb h9, sb h10, sb (rfl : false = false), sg h19, sb h20] (by kernel_rfl)
                        · cases h21 : (↑(cellsX it).length : Int) == 1
                          · exact wk At.ref11_Shape [sb h1, sb h2, sb h3, sb h4, sb h5, sb h6, sb h7, sb h8, sb h9, sb h10, sb (rfl : false = false), sg h19, sg h20, se (elAt_Q hq), sb h21] (by kernel_rfl)
                          · exact wk At.ref11_Shape [sb h1, sb h2, sb h3, sb h4, sb h5, sb h6, sb h7, sb h8, sb h9, sb h10, sb (rfl : false = false), sg h19, sg h20, se (elAt_Q hq), sg h21, se (elAt_Q hq)] (by kernel_rfl)
                  · cases h22 : (↑(cellsX xs).length : Int) == 0
                    · exact wk At.ref11_Shape [sb h1, sb h2, sb h3, sb h4, sb h5, sb h6, sb h7, sb h8, sb h9, sb (rfl : false = false), sb h22] (by kernel_rfl)
                    · cases h23 : (↑(cellsQ qs).length : Int) == 1
                      · exact wk At.ref11_Shape [sb h1, sb h2, sb h3, sb h4, sb h5, sb h6, sb h7, sb h8, sb h9, sb (rfl : false = false), sg h22, sb h23] (by kernel_rfl)
                      · cases h24 : (↑(cellsX it).length : Int) == 0
                        · exact wk At.ref11_Shape [sb h1, sb h2, sb h3, sb h4, sb h5, sb h6, sb h7, sb h8, sb h9, sb (rfl : false = false), sg h22, sg h23, se (elAt_Q hq), sb h24] (by kernel_rfl)
                        · exact wk At.ref11_Shape [sb h1, sb h2, sb h3, sb h4, sb h5, sb h6, sb h7, sb h8, sb h9, sb (rfl : false = false), sg h22, sg h23, se (elAt_Q hq), sg h24, se (elAt_Q hq)] (by kernel_rfl)
                · cases h25 : (↑(cellsX xs).length : Int) == 0
                  · exact wk At.ref11_Shape [sb h1, sb h2, sb h3, sb h4, sb h5, sb h6, sb h7, sb h8, sb (rfl : false = false), sb h25] (by kernel_rfl)
                  · cases h26 : (↑(cellsQ qs).length : Int) == 1
                    · exact wk At.ref11_Shape [sb h1, sb h2, sb h3, sb h4, sb h5, sb h6, sb h7, sb h8, sb (rfl : false = false), sg h25, sb h26] (by kernel_rfl)
                    · cases h27 : (↑(cellsX it).length : Int) == 0
                      · exact wk At.ref11_Shape [sb h1, sb h2, sb h3, sb h4, sb h5, sb h6, sb h7, sb h8, sb (rfl : false = false), sg h25, sg h26, se (elAt_Q hq), sb h27] (by kernel_rfl)
                      · exact wk At.ref11_Shape [sb h1, sb h2, sb h3, sb h4, sb h5, sb h6, sb h7, sb h8, sb (rfl : false = false), sg h25, sg h26, se (elAt_Q hq), sg h27, se (elAt_Q hq)] (by kernel_rfl)
              · cases h28 : (↑(cellsX xs).length : Int) == 3
                · exact wk At.ref11_Shape [sb h1, sb h2, sb h3, sb h4, sb h5, sb h6, sb h7, sb (rfl : true = true), sb h28] (by kernel_rfl)
                · exact wk At.ref11_Shape [sb h1, sb h2, sb h3, sb h4, sb h5, sb h6, sb h7, sb (rfl : true = true), sg h28] (by kernel_rfl)
            · cases h29 : decide (op < 1)
              · cases h30 : decide (13 < op)
                · cases h31 : (↑(cellsX xs).length : Int) == 2
                  · exact wk At.ref11_Shape [sb h1, sb h2, sb h3, sb h4, sb h5, sb h6, sg h29, sb h30, sb (rfl : true = true), sb h31] (by kernel_rfl)
                  · exact wk At.ref11_Shape [sb h1, sb h2, sb h3, sb h4, sb h5, sb h6, sg h29, sb h30, sb (rfl : true = true), sg h31] (by kernel_rfl)
                · exact wk At.ref11_Shape [sb h1, sb h2, sb h3, sb h4, sb h5, sb h6, sg h29, sb h30] (by kernel_rfl)
              · exact wk At.ref11_Shape [sb h1, sb h2, sb h3, sb h4, sb h5, sb h6, sb h29] (by kernel_rfl)
          · cases h32 : (↑(cellsX xs).length : Int) == 1
            · exact wk At.ref11_Shape [sb h1, sb h2, sb h3, sb h4, sb h5, sb (rfl : true = true), sb h32] (by kernel_rfl)
            · exact wk At.ref11_Shape [sb h1, sb h2, sb h3, sb h4, sb h5, sb (rfl : true = true), sg h32] (by kernel_rfl)
        · cases h33 : (↑(cellsX xs).length : Int) == 1
          · exact wk At.ref11_Shape [sb h1, sb h2, sb h3, sb h4, sb (rfl : true = true), sb h33] (by kernel_rfl)
          · exact wk At.ref11_Shape [sb h1, sb h2, sb h3, sb h4, sb (rfl : true = true), sg h33] (by kernel_rfl)
      · cases h34 : (↑(cellsX xs).length : Int) == 1
        · exact wk At.ref11_Shape [sb h1, sb h2, sb h3, sb (rfl : true = true), sb h34] (by kernel_rfl)
        · exact wk At.ref11_Shape [sb h1, sb h2, sb h3, sb (rfl : true = true), sg h34] (by kernel_rfl)
    · cases h35 : (↑(cellsX xs).length : Int) == 0
      · exact wk At.ref11_Shape [sb h1, sb h2, sb h35] (by kernel_rfl)
      · exact wk At.ref11_Shape [sb h1, sb h2, sg h35] (by kernel_rfl)
  · cases h36 : (↑(cellsX xs).length : Int) == 0
    · exact wk At.ref11_Shape [sb h1, sb h36] (by kernel_rfl)
    · exact wk At.ref11_Shape [sb h1, sg h36] (by kernel_rfl)
def shape0 (kind op : Int) (xs : List X) : Bool :=
  bif kind == 1 then
    bif (↑(cellsX xs).length : Int) == 0 then
      (↑(cellsQ []).length : Int) == 0
    else
      false
  else
    bif kind == 2 then
      bif (↑(cellsX xs).length : Int) == 0 then
        (↑(cellsQ []).length : Int) == 0
      else
        false
    else
      bif kind == 3 then
        bif (↑(cellsX xs).length : Int) == 1 then
          (↑(cellsQ []).length : Int) == 0
        else
          false
      else
        bif kind == 4 then
          bif (↑(cellsX xs).length : Int) == 1 then
            (↑(cellsQ []).length : Int) == 0
          else
            false
        else
          bif kind == 6 then
            bif (↑(cellsX xs).length : Int) == 1 then
              (↑(cellsQ []).length : Int) == 0
            else
              false
          else
            bif kind == 5 then
              bif decide (op < 1) then
                false
              else
                bif decide (13 < op) then
                  false
                else
                  bif (↑(cellsX xs).length : Int) == 2 then
                    (↑(cellsQ []).length : Int) == 0
                  else
                    false
            else
              bif kind == 7 then
                bif (↑(cellsX xs).length : Int) == 3 then
                  (↑(cellsQ []).length : Int) == 0
                else
                  false
              else
                bif kind == 8 then
                  bif (↑(cellsX xs).length : Int) == 0 then
                    false
                  else
                    false
                else
                  bif kind == 9 then
                    bif (↑(cellsX xs).length : Int) == 0 then
                      false
                    else
                      false
                  else
                    bif kind == 10 then
                      bif (↑(cellsX xs).length : Int) == 0 then
                        false
                      else
                        false
                    else
                      bif kind == 11 then
                        bif (↑(cellsX xs).length : Int) == 0 then
                          false
                        else
                          false
                      else
                        bif kind == 12 then
                          bif (↑(cellsX xs).length : Int) == 0 then
                            false
                          else
                            false
                        else
                          false
theorem k_ref11_Shape__0 (kind op : Int) (xs : List X) (nt : Bool) (val : V) (tn nm : Str) : ACallsTo E0 S.ref11_Shape [X.av (.mk kind op nt val tn nm xs [])] [] (bv (shape0 kind op xs)) [] := by
  unfold shape0
  cases h1 : kind == 1
  · cases h2 : kind == 2
    · cases h3 : kind == 3
      · cases h4 : kind == 4
        · cases h5 : kind == 6
          · cases h6 : kind == 5
            · cases h7 : kind == 7
              · cases h8 : kind == 8
                · cases h9 : kind == 9
                  · cases h10 : kind == 10
                    · cases h11 : kind == 11
                      · cases h12 : kind == 12
                        · exact wk At.ref11_Shape [sb h1, sb h2, sb h3, sb h4, sb h5, sb h6, sb h7, sb h8, sb h9, sb h10, sb h11, sb h12] (by kernel_rfl)
                        · cases h13 : (↑(cellsX xs).length : Int) == 0
                          · exact wk At.ref11_Shape [sb h1, sb h2, sb h3, sb h4, sb h5, sb h6, sb h7, sb h8, sb h9, sb h10, sb h11, sb h12, sb (rfl : false = false), sb h13] (by kernel_rfl)
                          · exact wk At.ref11_Shape [sb h1, sb h2, sb h3, sb h4, sb h5, sb h6, sb h7, sb h8, sb h9, sb h10, sb h11, sb h12, sb (rfl : false = false), sg h13, sb (rfl : false = false)] (by kernel_rfl)
                      · cases h14 : (↑(cellsX xs).length : Int) == 0
                        · exact wk At.ref11_Shape [sb h1, sb h2, sb h3, sb h4, sb h5, sb h6, sb h7, sb h8, sb h9, sb h10, sb h11, sb (rfl : false = false), sb h14] (by kernel_rfl)
                        · exact wk At.ref11_Shape [sb h1, sb h2, sb h3, sb h4, sb h5, sb h6, sb h7, sb h8, sb h9, sb h10, sb h11, sb (rfl : false = false), sg h14, sb (rfl : false = false)] (by kernel_rfl)
                    · cases h15 : (↑(cellsX xs).length : Int) == 0
                      · exact wk At.ref11_Shape [sb h1, sb h2, sb h3, sb h4, sb h5, sb h6, sb h7, sb h8, sb h9, sb h10, sb (rfl : false = false), sb h15] (by kernel_rfl)
                      · exact wk At.ref11_Shape [sb h1, sb h2, sb h3, sb h4, sb h5, sb h6, sb h7, sb h8, sb h9, sb h10, sb (rfl : false = false), sg h15, sb (rfl : false = false)] (by kernel_rfl)
                  · cases h16 : (↑(cellsX xs).length : Int) == 0
                    · exact wk At.ref11_Shape [sb h1, sb h2, sb h3, sb h4, sb h5, sb h6, sb h7, sb h8, sb h9, sb (rfl : false = false), sb h16] (by kernel_rfl)
                    · exact wk At.ref11_Shape [sb h1, sb h2, sb h3, sb h4, sb h5, sb h6, sb h7, sb h8, sb h9, sb (rfl : false = false), sg h16, sb (rfl : false = false)] (by kernel_rfl)
                · cases h17 : (↑(cellsX xs).length : Int) == 0
                  · exact wk At.ref11_Shape [sb h1, sb h2, sb h3, sb h4, sb h5, sb h6, sb h7, sb h8, sb (rfl : false = false), sb h17] (by kernel_rfl)
                  · exact wk At.ref11_Shape [sb h1, sb h2, sb h3, sb h4, sb h5, sb h6, sb h7, sb h8, sb (rfl : false = false), sg h17, sb (rfl : false = false)] (by kernel_rfl)
              · cases h18 : (↑(cellsX xs).length : Int) == 3
                · exact wk At.ref11_Shape [sb h1, sb h2, sb h3, sb h4, sb h5, sb h6, sb h7, sb (rfl : true = true), sb h18] (by kernel_rfl)
                · exact wk At.ref11_Shape [sb h1, sb h2, sb h3, sb h4, sb h5, sb h6, sb h7, sb (rfl : true = true), sg h18] (by kernel_rfl)
            · cases h19 : decide (op < 1)
              · cases h20 : decide (13 < op)
                · cases h21 : (↑(cellsX xs).length : Int) == 2
                  · exact wk At.ref11_Shape [sb h1, sb h2, sb h3, sb h4, sb h5, sb h6, sg h19, sb h20, sb (rfl : true = true), sb h21] (by kernel_rfl)
                  · exact wk At.ref11_Shape [sb h1, sb h2, sb h3, sb h4, sb h5, sb h6, sg h19, sb h20, sb (rfl : true = true), sg h21] (by kernel_rfl)
                · exact wk At.ref11_Shape [sb h1, sb h2, sb h3, sb h4, sb h5, sb h6, sg h19, sb h20] (by kernel_rfl)
              · exact wk At.ref11_Shape [sb h1, sb h2, sb h3, sb h4, sb h5, sb h6, sb h19] (by kernel_rfl)
          · cases h22 : (↑(cellsX xs).length : Int) == 1
            · exact wk At.ref11_Shape [sb h1, sb h2, sb h3, sb h4, sb h5, sb (rfl : true = true), sb h22] (by kernel_rfl)
            · exact wk At.ref11_Shape [sb h1, sb h2, sb h3, sb h4, sb h5, sb (rfl : true = true), sg h22] (by kernel_rfl)
        · cases h23 : (↑(cellsX xs).length : Int) == 1
          · exact wk At.ref11_Shape [sb h1, sb h2, sb h3, sb h4, sb (rfl : true = true), sb h23] (by kernel_rfl)
          · exact wk At.ref11_Shape [sb h1, sb h2, sb h3, sb h4, sb (rfl : true = true), sg h23] (by kernel_rfl)
      · cases h24 : (↑(cellsX xs).length : Int) == 1
        · exact wk At.ref11_Shape [sb h1, sb h2, sb h3, sb (rfl : true = true), sb h24] (by kernel_rfl)
        · exact wk At.ref11_Shape [sb h1, sb h2, sb h3, sb (rfl : true = true), sg h24] (by kernel_rfl)
    · cases h25 : (↑(cellsX xs).length : Int) == 0
      · exact wk At.ref11_Shape [sb h1, sb h2, sb h25] (by kernel_rfl)
      · exact wk At.ref11_Shape [sb h1, sb h2, sg h25] (by kernel_rfl)
  · cases h26 : (↑(cellsX xs).length : Int) == 0
    · exact wk At.ref11_Shape [sb h1, sb h26] (by kernel_rfl)
    · exact wk At.ref11_Shape [sb h1, sg h26] (by kernel_rfl)
def shape (e : X) : Bool := match e.sub with
  | [] => shape0 e.kind e.op e.args
  | q :: r => shape1 e.kind e.op e.args (q :: r) q.star q.items q.wh
theorem k_ref11_Shape (e : X) : Pure S.ref11_Shape [e.av] (bv (shape e)) := by
  cases e with
  | mk kind op nt val tn nm xs qs =>
    cases qs with
    | nil => exact k_ref11_Shape__0 kind op xs nt val tn nm
    | cons q r => cases q with
      | mk st it fm wh => exact k_ref11_Shape__1 kind op xs _ st it wh nt val tn nm fm rfl
def formed (e : X) : Bool := match e.sub with
  | [] => formed0 e.kind e.op e.args
  | q :: r => formed1 e.kind e.op e.args (q :: r) q.items q.wh
theorem k_scope_Formed (e : X) : Pure S.scope_Formed [e.av] (bv (formed e)) := by
  cases e with
  | mk kind op nt val tn nm xs qs =>
    cases qs with
    | nil => exact k_scope_Formed__0 kind op xs nt val tn nm
    | cons q r => cases q with
      | mk st it fm wh => exact k_scope_Formed__1 kind op xs _ it wh nt val tn nm st fm rfl
theorem rresI_ok (frs : List Fr) (q n : Str) (k : Nat) (f : Fr) (els : Int × Int × Bool) : ∀ (c : List Col) (j : Nat), (rresI frs q n k f els c j = els) ∨ (∃ (i : Nat) (x : Col), rresI frs q n k f els c j = (((k : Nat) : Int), ((j + i : Nat) : Int), true) ∧ c[i]? = some x)
  | [], j => .inl rfl
  | x :: r, j => by
    rcases rresI_ok frs q n k f els r (j + 1) with h | ⟨i, y, h, hy⟩
    · simp only [rresI, Bool.cond_eq_ite]
      split
      · exact .inr ⟨0, x, rfl, rfl⟩
      · exact .inl h
    · simp only [rresI, Bool.cond_eq_ite]
      split
      · exact .inr ⟨0, x, rfl, rfl⟩
      · exact .inr ⟨i + 1, y, by rw [h]; congr 2; omega, hy⟩
theorem rres_ok (frs : List Fr) (q n : Str) : ∀ (k : Nat), k ≤ frs.length → (rres frs q n k).2.2 = true → ∃ (i j : Nat) (f : Fr) (c : Col), rres frs q n k = ((i : Int), (j : Int), true) ∧ frs[i]? = some f ∧ f.cols[j]? = some c
  | 0, _, h => by simp [rres] at h
  | k + 1, hk, h => by
    have ih := rres_ok frs q n k (by omega)
    have hx := getD_at (l := frs) (k := k) frNull (by omega)
    have hi := rresI_ok frs q n k (frs.getD k frNull) (rres frs q n k) (frs.getD k frNull).cols 0
    simp only [rres, Bool.cond_eq_ite] at h ⊢
    have key : (rresI frs q n k (frs.getD k frNull) (rres frs q n k) (frs.getD k frNull).cols 0).2.2 = true → ∃ (i j : Nat) (f : Fr) (c : Col), rresI frs q n k (frs.getD k frNull) (rres frs q n k) (frs.getD k frNull).cols 0 = ((i : Int), (j : Int), true) ∧ frs[i]? = some f ∧ f.cols[j]? = some c := by
      intro h
      rcases hi with e | ⟨i, y, e, hy⟩
      · rw [e] at h ⊢; exact ih h
      · exact ⟨k, 0 + i, _, y, e, hx, by simpa using hy⟩
    revert h
    repeat' split
    all_goals first | exact ih | exact key
end Go.AM
