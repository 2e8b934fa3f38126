/-
  The contract of evaluate.Value.
-/
import Derived.Test.YtkibinkahpgboaaDoorUEb
namespace Go.AM
set_option maxRecDepth 100000
set_option maxHeartbeats 1000000
set_option linter.unusedSimpArgs false
set_option linter.unusedVariables false
theorem formed0_cases {k o : Int} {xs : List X} (h : formed0 k o xs = true) : ((k = 1 ∨ k = 2) ∧ xs.length = 0) ∨ ((k = 3 ∨ k = 4 ∨ k = 6) ∧ xs.length = 1) ∨ (k = 5 ∧ xs.length = 2 ∧ 1 ≤ o ∧ o ≤ 13) ∨ (k = 7 ∧ xs.length = 3) := by
  simp only [formed0, Bool.cond_eq_ite, cellsX_length] at h
  simp at h
  repeat' split at h
  all_goals simp_all
  all_goals omega
theorem formed1_cases {k o : Int} {xs : List X} {qs : List Qy} {it wh : List X} (hq : qs ≠ []) (h : formed1 k o xs qs it wh = true) : xs.length = 0 ∧ qs.length = 1 ∧ wh.length ≤ 1 ∧ (((k = 8 ∨ k = 9) ∧ it.length = 0) ∨ ((k = 10 ∨ k = 11 ∨ k = 12) ∧ it.length = 1)) := by
  simp only [formed1, Bool.cond_eq_ite, cellsX_length, cellsQ_length] at h
  simp [hq] at h
  obtain ⟨h1, h2, h3, h4, h5, h6, h7, h⟩ := h
  repeat' split at h
  all_goals simp_all
  all_goals omega
/-- What an expression with arguments comes to. -/
def eOp (e : X) (l : List V) : V × Int := match l with
  | [a] => if e.kind = 6 then opIsNull e.op e.not a else if e.kind = 3 then opNot e.op e.not a else opNeg e.op e.not a
  | [a, b] => opBin e.op e.not a b
  | [a, b, c] => opBet e.op e.not a b c
  | _ => (V.null, 0)
theorem OpKind.cases {e : X} (h : OpKind e) : e.sub = [] ∧ (((e.kind = 3 ∨ e.kind = 4 ∨ e.kind = 6) ∧ e.args.length = 1) ∨ (e.kind = 5 ∧ e.args.length = 2 ∧ 1 ≤ e.op ∧ e.op ≤ 13) ∨ (e.kind = 7 ∧ e.args.length = 3)) := by
  have hf := h.fok
  have k1 := h.k1
  have k2 := h.k2
  have k8 := h.k8
  unfold formed at hf
  cases hs : e.sub with
  | nil =>
    rw [hs] at hf
    have := formed0_cases hf
    refine ⟨rfl, ?_⟩
    omega
  | cons q r =>
    rw [hs] at hf
    have := (formed1_cases (by simp) hf).2.2.2
    omega
theorem c_operation (e : X) (h : OpKind e) (l : List V) (hl : l.length = e.args.length) (hg : ∀ v ∈ l, v.Good) : Pure S.evaluate_operation [e.av, vsl l] (.tup [(eOp e l).1.av, iv (eOp e l).2]) := by
  obtain ⟨hs, hk⟩ := h.cases
  cases e with
  | mk k o nt val tn nm xs qs =>
    simp only [X.sub_mk, X.kind_mk, X.op_mk, X.args_mk] at hs hk hl
    subst hs
    match l, hl, hg with
    | [], hl, _ => simp at hl; omega
    | [a], hl, hg =>
      have ha := (hg a (by simp)).small
      simp only [List.length_cons, List.length_nil] at hl
      have : k = 3 ∨ k = 4 ∨ k = 6 := by omega
      rcases this with rfl | rfl | rfl
      · exact k_evaluate_operation__Not o nt a val tn nm xs [] ha
      · exact k_evaluate_operation__Neg o nt a val tn nm xs []
      · exact k_evaluate_operation__IsNull o nt a val tn nm xs []
    | [a, b], hl, hg =>
      simp only [List.length_cons, List.length_nil] at hl
      obtain ⟨rfl, ho⟩ : k = 5 ∧ 1 ≤ o ∧ o ≤ 13 := by omega
      exact k_evaluate_operation__Bin o nt a b val tn nm xs [] (hg a (by simp)).small (hg b (by simp)).small ho
    | [a, b, c], hl, hg =>
      simp only [List.length_cons, List.length_nil] at hl
      obtain rfl : k = 7 := by omega
      exact k_evaluate_operation__Bet o nt a b c val tn nm xs []
    | a :: b :: c :: d :: r, hl, _ => simp only [List.length_cons] at hl; omega
/-- The items of a row. -/
def rowI (f : X → V × Int) (k : Int) : List X → List V → Int × List V
  | [], its => (0, its)
  | x :: r, its => bif (f x).2 != 0 then ((f x).2, its) else bif (f x).1.kind == 0 then rowI f k r its else bif k == 10 && (f x).1.kind != 1 then (5, its) else rowI f k r (its ++ [(f x).1])
theorem aggI_eq (f : X → V × Int) (q : Qy) (w : List Fr) (tb : List Tb) (e : X) (n : Nat) (its0 : List V) : ∀ (l : List X) (i : Nat) (its : List V), aggI f q w tb e n its0 l i its = rowI f e.kind l its
  | [], _, _ => rfl
  | x :: r, i, its => by
    simp only [aggI, rowI, aggI_eq f q w tb e n its0 r]
    cases (f x).2 != 0 <;> cases (f x).1.kind == 0 <;> cases e.kind == 10 <;> simp
theorem rowI_len (f : X → V × Int) (k : Int) : ∀ (l : List X) (its : List V), (rowI f k l its).2.length ≤ its.length + l.length
  | [], its => by simp [rowI]
  | x :: r, its => by
    have h1 := rowI_len f k r its
    have h2 := rowI_len f k r (its ++ [(f x).1])
    simp only [List.length_append, List.length_cons, List.length_nil] at h2
    simp only [rowI, Bool.cond_eq_ite, List.length_cons]
    repeat' split
    all_goals (try simp only); omega
theorem rowI_all {P : V → Prop} (f : X → V × Int) (k : Int) : ∀ (l : List X) (its : List V), (∀ x ∈ l, P (f x).1) → (∀ v ∈ its, P v) → ∀ v ∈ (rowI f k l its).2, P v
  | [], its, _, h => h
  | x :: r, its, hx, h => by
    simp only [rowI, Bool.cond_eq_ite]
    have hr : ∀ y ∈ r, P (f y).1 := fun y hy => hx y (by simp [hy])
    repeat' split
    · exact h
    · exact rowI_all f k r its hr h
    · exact h
    · exact rowI_all f k r _ hr fun v hv => (List.mem_append.1 hv).elim (h v) fun hv => by simp only [List.mem_singleton] at hv; exact hv ▸ hx x (by simp)
/-- The rows that are selected, with what is done at each. -/
def selR (tr : Rw → Bool × Int) (g : Rw → List V → Int × List V) : List Rw → Nat → List V → Int × Nat × List V
  | [], n, its => (0, n, its)
  | r :: l, n, its => bif (tr r).2 != 0 then ((tr r).2, n, its) else bif (tr r).1 then (bif (g r its).1 != 0 then ((g r its).1, n + 1, (g r its).2) else selR tr g l (n + 1) (g r its).2) else selR tr g l n its
theorem selA_eq (tr : Rw → Bool × Int) (g : Rw → List V → Int × List V) (q : Qy) (frs : List Fr) (tb : List Tb) (e : X) (t : Tb) (n0 : Nat) (its0 : List V) : ∀ (l : List Rw) (i n : Nat) (its : List V), selA tr g q frs tb e t n0 its0 l i n its = selR tr g l n its
  | [], _, _, _ => rfl
  | r :: l, i, n, its => by
    simp only [selA, selR, selA_eq tr g q frs tb e t n0 its0 l, bne]
    cases (tr r).2 == 0 <;> cases (tr r).1 <;> simp
theorem selR_len (tr : Rw → Bool × Int) (g : Rw → List V → Int × List V) (m : Nat) (hg : ∀ r its, (g r its).2.length ≤ its.length + m) : ∀ (l : List Rw) (n : Nat) (its : List V), (selR tr g l n its).2.2.length ≤ its.length + m * l.length
  | [], n, its => by simp [selR]
  | r :: l, n, its => by
    have h1 := selR_len tr g m hg l n its
    have h2 := selR_len tr g m hg l (n + 1) (g r its).2
    have h3 := hg r its
    simp only [selR, Bool.cond_eq_ite, List.length_cons, Nat.mul_add]
    repeat' split
    all_goals (try simp only); omega
theorem selR_all {P : V → Prop} (tr : Rw → Bool × Int) (g : Rw → List V → Int × List V) : ∀ (l : List Rw) (n : Nat) (its : List V), (∀ r ∈ l, ∀ its, (∀ v ∈ its, P v) → ∀ v ∈ (g r its).2, P v) → (∀ v ∈ its, P v) → ∀ v ∈ (selR tr g l n its).2.2, P v
  | [], n, its, _, h => h
  | r :: l, n, its, hg, h => by
    have hl : ∀ r ∈ l, ∀ its, (∀ v ∈ its, P v) → ∀ v ∈ (g r its).2, P v := fun y hy => hg y (by simp [hy])
    simp only [selR, Bool.cond_eq_ite]
    repeat' split
    · exact h
    · exact hg r (by simp) its h
    · exact selR_all tr g l _ _ hl (hg r (by simp) its h)
    · exact selR_all tr g l _ _ hl h
/-- A condition. -/
def eTrueL (f : X → V × Int) : List X → Bool × Int
  | [] => eTrue0
  | x :: _ => eTrue1 f x
/-- An aggregate; F: values in given frames. -/
def evalA (F : List Fr → X → V × Int) (e : X) (frs : List Fr) (tb : List Tb) : V × Int := match e.sub with
  | [] => (V.null, 0)
  | q :: _ => match findS tb q.frm with
    | none => eAgg (3, 0, []) e
    | some t => eAgg (selR (fun r => eTrueL (F (eInside frs t r.vals)) q.wh) (fun r its => rowI (F (eInside frs t r.vals)) e.kind q.items its) t.rows 0 []) e
/-- The value of an expression. -/
def eval : Nat → X → List Fr → List Tb → V × Int
  | 0, _, _, _ => (V.null, 0)
  | n + 1, e, frs, tb => valF (fun x => eval n x frs tb) (eOp e) (evalA (fun w x => eval n x w tb) e frs tb) e frs tb
/- ### values are valid -/
theorem good01 (c : Bool) : V.Good ⟨2, if c = true then 1 else 0, ⟨#[]⟩⟩ := by
  cases c
  · exact good_bool (n := 0) (by decide)
  · exact good_bool (n := 1) (by decide)
theorem gc1 {α : Type} (c : Bool) {a b : V × α} (ha : a.1.Good) (hb : b.1.Good) : (bif c then a else b).1.Good := by cases c <;> assumption
theorem gc0 (c : Bool) {a b : V} (ha : a.Good) (hb : b.Good) : (bif c then a else b).Good := by cases c <;> assumption
theorem ic1 (c : Bool) {a b : Int × Bool} (ha : I64 a.1) (hb : I64 b.1) : I64 (bif c then a else b).1 := by cases c <;> assumption
theorem vCmp_good (op : Int) (a b : V) : (vCmp op a b).1.Good := by
  unfold vCmp; repeat' (first | apply gc1 | exact good_null | exact good01 _)
theorem land0_good (a b : V) : (land0 a b).Good := by
  unfold land0; repeat' (first | apply gc0 | exact good_null | exact good01 _)
theorem land_good (a b : V) : (land a b).1.Good := by
  unfold land; repeat' (first | apply gc1 | exact good_null | exact land0_good _ _)
theorem lnot_good (a : V) (ha : a.Good) : (lnot a).1.Good := by
  unfold lnot; repeat' (first | apply gc1 | exact good_null | exact ha | exact good01 _)
theorem lor_good (a b : V) : (lor a b).1.Good := by
  unfold lor; repeat' (first | exact lnot_good _ (land0_good _ _) | exact good_null | apply gc1)
theorem vTruth_good (v : V) (ok : Bool) (h : v.Good) : (vTruth v ok).1.Good := by
  unfold vTruth; repeat' (first | apply gc1 | exact good_null | exact h)
theorem aAdd_i (a b : Int) : I64 (aAdd a b).1 := by
  unfold aAdd; repeat' (first | apply ic1 | exact i64_wrap _ | exact ⟨by decide, by decide⟩)
theorem aSub_i (a b : Int) : I64 (aSub a b).1 := by
  unfold aSub; repeat' (first | apply ic1 | exact i64_wrap _ | exact ⟨by decide, by decide⟩)
theorem aMul_i (a b : Int) : I64 (aMul a b).1 := by
  unfold aMul; repeat' (first | apply ic1 | exact i64_wrap _ | exact ⟨by decide, by decide⟩)
theorem aDiv_i (a b : Int) : I64 (aDiv a b).1 := by
  unfold aDiv; repeat' (first | apply ic1 | exact i64_wrap _ | exact ⟨by decide, by decide⟩)
theorem aMod_i (a b : Int) (ha : I64 a) : I64 (aMod a b).1 := by
  have h : I64 (a.tmod b) := by
    have h0 := Int.natAbs_tmod a b
    have h1 := Nat.mod_le a.natAbs b.natAbs
    have h2 : a < 0 → a.tmod b ≤ 0 := fun h => by
      have h3 := Int.tmod_nonneg b (show 0 ≤ -a by omega)
      rw [Int.neg_tmod] at h3; omega
    simp only [I64] at *
    omega
  unfold aMod; repeat' (first | apply ic1 | exact h | exact ⟨by decide, by decide⟩)
theorem vArith_good (op : Int) (a b : V) (ha : a.Good) : (vArith op a b).1.Good := by
  unfold vArith
  repeat' (first | apply gc1 | exact good_null | exact good_int (aAdd_i _ _) | exact good_int (aSub_i _ _) | exact good_int (aMul_i _ _) | exact good_int (aDiv_i _ _) | exact good_int (aMod_i _ _ ha.i64) | exact good_int ⟨by decide, by decide⟩)
theorem eOp_good (e : X) (l : List V) (hg : ∀ v ∈ l, v.Good) : (eOp e l).1.Good := by
  match l, hg with
  | [], _ => exact good_null
  | [a], hg =>
    have ha := hg a (by simp)
    simp only [eOp]
    split
    · exact good01 _
    split
    · exact vTruth_good _ _ (lnot_good _ ha)
    · exact vArith_good _ _ _ (good_int ⟨by decide, by decide⟩)
  | [a, b], hg =>
    have ha := hg a (by simp)
    simp only [eOp, opBin]
    repeat' (first | exact vTruth_good _ _ (land_good _ _) | exact vTruth_good _ _ (lor_good _ _) | exact vCmp_good _ _ _ | exact vArith_good _ _ _ ha | apply gc1)
  | [a, b, c], hg =>
    simp only [eOp, opBet, vBetween]
    repeat' (first | exact good_null | exact vTruth_good _ _ (land_good _ _) | apply gc1)
  | a :: b :: c :: d :: r, _ => exact good_null
theorem minL_all {P : V → Prop} (l0 : List V) : ∀ (l : List V) (i : Nat) (m : V), (∀ v ∈ l, P v) → P m → P (minL l0 l i m)
  | [], _, _, _, h => h
  | x :: r, i, m, hl, h => by
    simp only [minL, Bool.cond_eq_ite]
    split
    · exact minL_all l0 r _ _ (fun v hv => hl v (by simp [hv])) (hl x (by simp))
    · exact minL_all l0 r _ _ (fun v hv => hl v (by simp [hv])) h
theorem maxL_all {P : V → Prop} (l0 : List V) : ∀ (l : List V) (i : Nat) (m : V), (∀ v ∈ l, P v) → P m → P (maxL l0 l i m)
  | [], _, _, _, h => h
  | x :: r, i, m, hl, h => by
    simp only [maxL, Bool.cond_eq_ite]
    split
    · exact maxL_all l0 r _ _ (fun v hv => hl v (by simp [hv])) (hl x (by simp))
    · exact maxL_all l0 r _ _ (fun v hv => hl v (by simp [hv])) h
theorem minV_all {P : V → Prop} {l : List V} (h : ∀ v ∈ l, P v) (h0 : P V.null) : P (minV l) :=
  minL_all l _ _ _ (fun v hv => h v (List.mem_of_mem_drop hv)) (by cases l with | nil => exact h0 | cons x r => exact h x (by simp))
theorem maxV_all {P : V → Prop} {l : List V} (h : ∀ v ∈ l, P v) (h0 : P V.null) : P (maxV l) :=
  maxL_all l _ _ _ (fun v hv => h v (List.mem_of_mem_drop hv)) (by cases l with | nil => exact h0 | cons x r => exact h x (by simp))
theorem sumL_i (l0 : List Int) : ∀ (l : List Int) (i : Nat) (a b : Int), I64 (sumL l0 l i a b).1
  | [], i, a, b => by
    simp only [sumL]
    repeat' (first | apply ic1 | exact i64_wrap _ | exact ⟨by decide, by decide⟩)
  | x :: r, i, a, b => by simp only [sumL]; exact sumL_i l0 r _ _ _
theorem esumL_eq (its : List V) : ∀ (c : List V) (i : Nat) (l : List Int), esumL its c i l = bif !(aSum (l ++ c.map V.int)).2 then (V.null, 6) else (⟨1, (aSum (l ++ c.map V.int)).1, ⟨#[]⟩⟩, 0)
  | [], i, l => by simp [esumL, V.null]
  | x :: r, i, l => by simp only [esumL, List.map_cons]; rw [esumL_eq its r]; simp
theorem eSum_eq (its : List V) : eSum its = bif !(aSum (its.map V.int)).2 then (V.null, 6) else (⟨1, (aSum (its.map V.int)).1, ⟨#[]⟩⟩, 0) := by
  unfold eSum; rw [esumL_eq]; simp
theorem eSum_good (its : List V) : (eSum its).1.Good := by
  rw [eSum_eq]
  exact gc1 _ good_null (good_int (sumL_i _ _ _ _ _))
theorem eAgg_good (sel : Int × Nat × List V) (e : X) (hn : sel.2.1 ≤ 1000000) (h : ∀ v ∈ sel.2.2, v.Good) : (eAgg sel e).1.Good := by
  unfold eAgg
  have hb : V.Good ⟨2, if decide (0 < ((sel.2.1 : Nat) : Int)) then 1 else 0, ⟨#[]⟩⟩ := good01 _
  repeat' (first | exact good_null | exact hb | exact good_int ⟨by omega, by omega⟩ | exact eSum_good _ | exact minV_all h good_null | exact maxV_all h good_null | apply gc1)
theorem selR_n (tr : Rw → Bool × Int) (g : Rw → List V → Int × List V) : ∀ (l : List Rw) (n : Nat) (its : List V), (selR tr g l n its).2.1 ≤ n + l.length
  | [], n, its => by simp [selR]
  | r :: l, n, its => by
    have h1 := selR_n tr g l n its
    have h2 := selR_n tr g l (n + 1) (g r its).2
    simp only [selR, Bool.cond_eq_ite, List.length_cons]
    repeat' split
    all_goals (try simp only); omega
/-- All values of frames are valid; all values of tables. -/
abbrev FsG (frs : List Fr) : Prop := ∀ f ∈ frs, ∀ v ∈ f.vals, v.Good
structure TbG (tb : List Tb) : Prop where
  vals : ∀ x ∈ tb, ∀ r ∈ x.rows, ∀ v ∈ r.vals, v.Good
  rows : ∀ x ∈ tb, x.rows.length ≤ 1000
theorem FsG.ins {frs : List Fr} (h : FsG frs) {t : Tb} {v : List V} (hv : ∀ x ∈ v, x.Good) : FsG (eInside frs t v) := fun f hf => by
  simp only [eInside, List.mem_append, List.mem_singleton] at hf
  rcases hf with hf | rfl
  · exact h f hf
  · exact hv
theorem findS_mem {tb : List Tb} {n : Str} {t : Tb} (h : findS tb n = some t) : t ∈ tb := List.mem_of_find?_eq_some h
theorem evalA_good {F : List Fr → X → V × Int} {n : Nat} {e : X} {frs : List Fr} {tb : List Tb} (he : XOk (n + 1) e) (hf : FsG frs) (ht : TbG tb) (hF : ∀ w x, XOk n x → FsG w → (F w x).1.Good) : (evalA F e frs tb).1.Good := by
  unfold evalA
  split
  · exact good_null
  · rename_i q r hs
    obtain ⟨_, _, _, hsub⟩ := he
    obtain ⟨h1, h2, h3⟩ := hsub q (by rw [hs]; simp)
    split
    · exact eAgg_good _ _ (by simp) (fun v hv => by cases hv)
    · rename_i t hfd
      have htm := findS_mem hfd
      refine eAgg_good _ _ ?_ ?_
      · have := selR_n (fun r => eTrueL (F (eInside frs t r.vals)) q.wh) (fun r its => rowI (F (eInside frs t r.vals)) e.kind q.items its) t.rows 0 []
        have := ht.rows t htm
        omega
      · refine selR_all _ _ _ _ _ (fun r hr its hi => rowI_all _ _ _ _ (fun x hx => hF _ x (h2 x hx) (hf.ins (ht.vals t htm r hr))) hi) (fun v hv => by cases hv)
theorem evL_good (f : X → V × Int) (op : List V → V × Int) (e : X) (frs : List Fr) (tb : List Tb) (hop : ∀ l, (∀ v ∈ l, v.Good) → (op l).1.Good) : ∀ (l : List X) (i : Nat) (out : List V), (∀ x ∈ l, (f x).1.Good) → (∀ v ∈ out, v.Good) → (evL f op e frs tb l i out).1.Good
  | [], i, out, _, h => hop out h
  | x :: r, i, out, hl, h => by
    simp only [evL]
    exact gc1 _ good_null (evL_good f op e frs tb hop r _ _ (fun y hy => hl y (by simp [hy])) fun v hv => (List.mem_append.1 hv).elim (h v) fun h => by simp only [List.mem_singleton] at h; exact h ▸ hl x (by simp))
theorem valAt_all {P : V → Prop} {l : List V} (h : ∀ v ∈ l, P v) (h0 : P V.null) (k : Int) : P (valAt l k) := by
  unfold valAt
  rw [List.getD_eq_getElem?_getD]
  cases hk : l[k.toNat]? with
  | none => exact h0
  | some v => exact h v (List.mem_of_getElem? hk)
theorem rFr_mem (frs : List Fr) (q n : Str) : rFr frs q n ∈ frs ∨ rFr frs q n = frNull := by
  unfold rFr
  rw [List.getD_eq_getElem?_getD]
  cases hk : frs[(rResolve frs q n).1.toNat]? with
  | none => exact .inr rfl
  | some v => exact .inl (List.mem_of_getElem? hk)
theorem eval_good : ∀ (n : Nat) (e : X) (frs : List Fr) (tb : List Tb), XOk n e → FsG frs → TbG tb → (eval n e frs tb).1.Good
  | 0, e, frs, tb, h, _, _ => h.elim
  | n + 1, e, frs, tb, h, hf, ht => by
    have hA := evalA_good (F := fun w x => eval n x w tb) h hf ht (fun w x hx hw => eval_good n x w tb hx hw ht)
    obtain ⟨h1, h2, h3, h4⟩ := h
    have hv : ∀ v ∈ (rFr frs e.table e.name).vals, v.Good := by
      rcases rFr_mem frs e.table e.name with h | h
      · exact hf _ h
      · rw [h]; intro v hv; cases hv
    simp only [eval, valF]
    repeat' (first | exact good_null | exact h1 | exact hA | exact valAt_all hv good_null _ | exact evL_good _ _ _ _ _ (fun l hl => eOp_good e l hl) _ _ _ (fun x hx => eval_good n x frs tb (h3 x hx) hf ht) (fun v hv => by cases hv) | apply gc1)
end Go.AM

namespace Go.AM
set_option maxRecDepth 100000
set_option maxHeartbeats 1000000
set_option linter.unusedSimpArgs false
set_option linter.unusedVariables false
theorem FsOk.eins {n : Nat} {frs : List Fr} (h : FsOk (n + 1) frs) {t : Tb} (hc : Short t.sch.cols) {v : List V} (hv : ∀ x ∈ v, x.Good) : FsOk n (eInside frs t v) := by
  refine ⟨by have := h.len; simp [eInside]; omega, fun f hf => ?_, fun f hf => ?_⟩
  · simp only [eInside, List.mem_append, List.mem_singleton] at hf
    rcases hf with hf | rfl
    · exact h.cols f hf
    · exact hc
  · simp only [eInside, List.mem_append, List.mem_singleton] at hf
    rcases hf with hf | rfl
    · exact h.vals f hf
    · exact fun x hx => (hv x hx).small
theorem c_True {f : X → V × Int} {wh : List X} {frs : List Fr} {tb : List Tb} (hf : ∀ x ∈ wh, Pure S.evaluate_Value [x.av, fsl frs, tsl tb] (.tup [(f x).1.av, iv (f x).2])) (hg : ∀ x ∈ wh, (f x).1.Good) : Pure S.evaluate_True [xsl wh, fsl frs, tsl tb] (.tup [bv (eTrueL f wh).1, iv (eTrueL f wh).2]) := by
  cases wh with
  | nil => exact k_evaluate_True__0 frs tb
  | cons x r => exact k_evaluate_True__1 f x r frs tb (hf x (by simp)) (hg x (by simp)).small
theorem formed_sub {e : X} (h : formed e = true) (h8 : 8 ≤ e.kind) (h12 : e.kind ≤ 12) : ∃ q, e.sub = [q] := by
  unfold formed at h
  cases hs : e.sub with
  | nil => rw [hs] at h; have := formed0_cases h; omega
  | cons q r =>
    rw [hs] at h
    have := (formed1_cases (by simp) h).2.1
    cases r with
    | nil => exact ⟨q, rfl⟩
    | cons x y => simp at this
theorem c_selected {F : List Fr → X → V × Int} {n : Nat} {q : Qy} {frs : List Fr} {tb : List Tb} {e : X} {t : Tb} (hfd : findS tb q.frm = some t) (hfo : FsOk (n + 1) frs) (hto : TbOk tb) (hfg : FsG frs) (htg : TbG tb) (hi : Few q.items)
    (hF : ∀ w, FsOk n w → FsG w → ∀ x, (x ∈ q.items ∨ x ∈ q.wh) → Pure S.evaluate_Value [x.av, fsl w, tsl tb] (.tup [(F w x).1.av, iv (F w x).2]) ∧ (F w x).1.Good) :
    ACallsTo E0 S.evaluate_selected [q.av, fsl frs, tsl tb, .fn S.evaluate_aggregate_c1 [.p 0 0, .p 1 0, .p 2 0, .p 3 0, .p 4 0]] (AH q tb e 0 [])
      (iv (selR (fun r => eTrueL (F (eInside frs t r.vals)) q.wh) (fun r its => rowI (F (eInside frs t r.vals)) e.kind q.items its) t.rows 0 []).1)
      (AH q tb e (selR (fun r => eTrueL (F (eInside frs t r.vals)) q.wh) (fun r its => rowI (F (eInside frs t r.vals)) e.kind q.items its) t.rows 0 []).2.1 (selR (fun r => eTrueL (F (eInside frs t r.vals)) q.wh) (fun r its => rowI (F (eInside frs t r.vals)) e.kind q.items its) t.rows 0 []).2.2) := by
  have htm := findS_mem hfd
  have hin : ∀ r ∈ t.rows, FsOk n (eInside frs t r.vals) ∧ FsG (eInside frs t r.vals) := fun r hr => ⟨hfo.eins (hto.cols t htm) (htg.vals t htm r hr), hfg.ins (htg.vals t htm r hr)⟩
  have h := k_evaluate_selected__1 (fun r => eTrueL (F (eInside frs t r.vals)) q.wh) (fun r its => rowI (F (eInside frs t r.vals)) e.kind q.items its) q frs tb e t 0 [] (k_evaluate_find__1 tb q.frm hto.len t hfd) hfo.short (hto.rows t htm) (by simp) (by simp)
    (fun r its => by have := rowI_len (F (eInside frs t r.vals)) e.kind q.items its; simp only [Few] at hi; omega)
    (fun r hr => c_True (fun x hx => (hF _ (hin r hr).1 (hin r hr).2 x (.inr hx)).1) (fun x hx => (hF _ (hin r hr).1 (hin r hr).2 x (.inr hx)).2))
    (fun r hr n its hn hl => by
      have h := k_evaluate_aggregate_c1 (F (eInside frs t r.vals)) q (eInside frs t r.vals) tb e n its r hi hl (by rw [IntKind.wrap_i64]; omega) (fun x hx => (hF _ (hin r hr).1 (hin r hr).2 x (.inl hx)).1)
      simp only [aggC, aggI_eq] at h
      exact h)
  simp only [eSel1, selA_eq] at h
  exact h
theorem c_aggregate {F : List Fr → X → V × Int} {n : Nat} {e : X} {frs : List Fr} {tb : List Tb} (he : XOk (n + 1) e) (hs : ∃ q, e.sub = [q]) (hfo : FsOk (n + 1) frs) (hto : TbOk tb) (hfg : FsG frs) (htg : TbG tb)
    (hF : ∀ w, FsOk n w → FsG w → ∀ x, XOk n x → Pure S.evaluate_Value [x.av, fsl w, tsl tb] (.tup [(F w x).1.av, iv (F w x).2]) ∧ (F w x).1.Good) : Pure S.evaluate_aggregate [e.av, fsl frs, tsl tb] (.tup [(evalA F e frs tb).1.av, iv (evalA F e frs tb).2]) := by
  obtain ⟨q, hq⟩ := hs
  obtain ⟨_, _, _, h4⟩ := he
  obtain ⟨h5, h6, h7⟩ := h4 q (by rw [hq]; simp)
  have hq0 : e.sub[0]? = some q := by rw [hq]; rfl
  unfold evalA
  rw [hq]
  simp only
  cases hfd : findS tb q.frm with
  | none => exact c_agg (3, 0, []) e q frs tb hq0 (by simp) (k_evaluate_selected__0 q frs tb e 0 [] (k_evaluate_find__0 tb q.frm hto.len hfd))
  | some t =>
    have htm := findS_mem hfd
    refine c_agg _ e q frs tb hq0 ?_ (c_selected hfd hfo hto hfg htg h5 fun w hw hg x hx => hF w hw hg x (hx.elim (h6 x) (h7 x)))
    have hl := selR_len (fun r => eTrueL (F (eInside frs t r.vals)) q.wh) (fun r its => rowI (F (eInside frs t r.vals)) e.kind q.items its) 1000 (fun r its => by have := rowI_len (F (eInside frs t r.vals)) e.kind q.items its; simp only [Few] at h5; omega) t.rows 0 []
    have hr := hto.rows t htm
    simp only [Short]
    simp only [List.length_nil] at hl
    have : 1000 * t.rows.length ≤ 1000 * 1000 := Nat.mul_le_mul_left _ hr
    omega
theorem c_Value : ∀ (n : Nat) (e : X) (frs : List Fr) (tb : List Tb), XOk n e → FsOk n frs → FsG frs → TbOk tb → TbG tb → Pure S.evaluate_Value [e.av, fsl frs, tsl tb] (.tup [(eval n e frs tb).1.av, iv (eval n e frs tb).2])
  | 0, e, frs, tb, h, _, _, _, _ => h.elim
  | n + 1, e, frs, tb, h, hf, hg, ht, htg => by
    have hA := @c_aggregate (fun w x => eval n x w tb) n e frs tb h
    obtain ⟨_, h2, h3, _⟩ := id h
    exact k_evaluate_Value__F (fun x => eval n x frs tb) (eOp e) (evalA (fun w x => eval n x w tb) e frs tb) e frs tb (n + 1) hf h2 (fun x hx => c_Value n x frs tb (h3 x hx) hf.less hg ht htg) (fun x hx => eval_good n x frs tb (h3 x hx) hg htg)
      (fun ho l hl hl2 => c_operation e ho l hl hl2)
      (fun hfm h8 h12 => hA (formed_sub hfm h8 h12) hf ht hg htg fun w hw hwg x hx => ⟨c_Value n x w tb hx hw hwg ht htg, eval_good n x w tb hx hwg htg⟩)
end Go.AM
