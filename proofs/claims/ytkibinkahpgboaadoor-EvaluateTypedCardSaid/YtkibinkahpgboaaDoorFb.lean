/-
  The plain law of EvaluateTyped.
-/
import Derived.Test.YtkibinkahpgboaaDoorFa
namespace Go.AM
set_option maxRecDepth 100000
set_option maxHeartbeats 1000000
set_option linter.unusedSimpArgs false
set_option linter.unusedVariables false
/-- Typed results. -/
structure Res (w : Int) (r : V × Int) : Prop where
  code : r.2 = 0 ∨ r.2 = 6 ∨ r.2 = 7
  kind : r.2 = 0 → r.1.kind = 0 ∨ r.1.kind = w
theorem Res.null {w : Int} (c : Int) (hc : c = 0 ∨ c = 6 ∨ c = 7) : Res w (⟨0, 0, ⟨#[]⟩⟩, c) := ⟨hc, fun _ => .inl rfl⟩
theorem Res.mk' {w : Int} {v : V} (h : v.kind = 0 ∨ v.kind = w) : Res w (v, 0) := ⟨.inl rfl, fun _ => h⟩
theorem Res.ite {w : Int} {c : Bool} {a b : V × Int} (ha : c = true → Res w a) (hb : c = false → Res w b) : Res w (bif c then a else b) := by
  cases c
  · exact hb rfl
  · exact ha rfl
abbrev KOk (v : V) (k : Int) : Prop := v.kind = 0 ∨ v.kind = k
theorem vCmp_res {op : Int} {a b : V} (h : a.kind = 0 ∨ b.kind = 0 ∨ a.kind = b.kind) : Res 2 (vCmp op a b) := by
  unfold vCmp
  refine Res.ite (fun _ => .null _ (.inl rfl)) fun h1 => Res.ite (fun _ => .null _ (.inl rfl)) fun h2 => Res.ite (fun h3 => ?_) fun _ => .mk' (.inr rfl)
  simp at h1 h2 h3
  omega
theorem lvalid_ok {v : V} (hg : v.Good) (h : KOk v 2) : lvalid v = true := by
  unfold lvalid
  rw [hg.valid]
  rcases h with h | h <;> simp [h]
theorem lnot_kind {a : V} (h : KOk a 2) : KOk (lnot a).1 2 := by
  unfold lnot
  simp only [Bool.cond_eq_ite, KOk] at *
  repeat' split
  all_goals simp_all
theorem land0_kind (a b : V) : KOk (land0 a b) 2 := by
  unfold land0
  simp only [Bool.cond_eq_ite, KOk]
  repeat' split
  all_goals simp
theorem lnot_res {a : V} (hg : a.Good) (h : KOk a 2) : Res 2 (vTruth (lnot a).1 (lnot a).2) := by
  have h2 : (lnot a).2 = true := by
    unfold lnot
    rw [lvalid_ok hg h]
    simp only [Bool.cond_eq_ite]
    repeat' split
    all_goals simp_all
  rw [h2]
  exact .mk' (lnot_kind h)
theorem land_res {a b : V} (ha : a.Good) (hb : b.Good) (h1 : KOk a 2) (h2 : KOk b 2) : Res 2 (vTruth (land a b).1 (land a b).2) := by
  unfold land
  rw [lvalid_ok ha h1, lvalid_ok hb h2]
  exact .mk' (land0_kind a b)
theorem lor_res {a b : V} (ha : a.Good) (hb : b.Good) (h1 : KOk a 2) (h2 : KOk b 2) : Res 2 (vTruth (lor a b).1 (lor a b).2) := by
  unfold lor
  rw [lvalid_ok ha h1, lvalid_ok hb h2]
  exact lnot_res (land0_good _ _) (land0_kind _ _)
theorem vArith_res {op : Int} {a b : V} (h1 : KOk a 1) (h2 : KOk b 1) : Res 1 (vArith op a b) := by
  unfold vArith
  refine Res.ite (fun _ => .null _ (.inl rfl)) fun e1 => Res.ite (fun _ => .null _ (.inl rfl)) fun e2 => Res.ite (fun h3 => ?_) fun _ => Res.ite (fun h3 => ?_) fun _ => ?_
  · simp [KOk] at e1 h1 h3; omega
  · simp [KOk] at e2 h2 h3; omega
  repeat' (first | exact .null _ (.inl rfl) | exact .null _ (.inr (.inl rfl)) | exact .null _ (.inr (.inr rfl)) | exact .mk' (.inr rfl) | refine Res.ite (fun _ => ?_) fun _ => ?_)
theorem vCmp_kind {op : Int} {a b : V} : KOk (vCmp op a b).1 2 := by
  unfold vCmp
  simp only [Bool.cond_eq_ite, KOk]
  repeat' split
  all_goals simp
theorem vBetween_res {x y z : V} (h1 : y.kind = 0 ∨ x.kind = 0 ∨ y.kind = x.kind) (h2 : x.kind = 0 ∨ z.kind = 0 ∨ x.kind = z.kind) : Res 2 (vBetween x y z) := by
  unfold vBetween
  refine Res.ite (fun _ => .null _ (vCmp_res h1).code) fun _ => Res.ite (fun _ => .null _ (vCmp_res h2).code) fun _ => ?_
  exact land_res (vCmp_good _ _ _) (vCmp_good _ _ _) vCmp_kind vCmp_kind
/- ### types of operations -/
theorem rfits_ok {x k : Int} (h : rfits x k = true) : x = 0 ∨ x = k := by
  simp only [rfits, Bool.cond_eq_ite] at h
  split at h <;> simp_all
theorem rfitL_ok (l0 : List Int) (want give : Int) : ∀ (l : List Int) (i : Nat) (w : Int), rfitL l0 want give l i = (w, 0) → w = give ∧ ∀ t ∈ l, t = 0 ∨ t = want
  | [], _, w, h => by simp only [rfitL, Prod.mk.injEq] at h; exact ⟨h.1.symm, fun t ht => by cases ht⟩
  | x :: r, i, w, h => by
    simp only [rfitL] at h
    cases h1 : rfits x want
    · rw [h1] at h; simp at h
    · rw [h1] at h
      obtain ⟨h2, h3⟩ := rfitL_ok l0 want give r _ w h
      exact ⟨h2, fun t ht => (List.mem_cons.1 ht).elim (fun h => h ▸ rfits_ok h1) (h3 t)⟩
theorem rwantL_ok (l0 : List Int) : ∀ (l : List Int) (i : Nat) (want w : Int), rwantL l0 l i want = (w, 0) → ∃ k, w = 2 ∧ ∀ t ∈ l0, t = 0 ∨ t = k
  | [], _, want, w, h => by
    obtain ⟨h1, h2⟩ := rfitL_ok l0 want 2 l0 0 w h
    exact ⟨want, h1, h2⟩
  | x :: r, i, want, w, h => by
    simp only [rwantL, Bool.cond_eq_ite] at h
    split at h
    · exact rwantL_ok l0 r _ _ w h
    · exact rwantL_ok l0 r _ _ w h
theorem KOk.trans {v : V} {t k : Int} (h : KOk v t) (ht : t = 0 ∨ t = k) : KOk v k := by
  rcases h with h | h
  · exact .inl h
  · rcases ht with rfl | rfl
    · exact .inl h
    · exact .inr h
/-- Values of these types. -/
inductive Typed : List V → List Int → Prop
  | nil : Typed [] []
  | cons {v : V} {t : Int} {l : List V} {ts : List Int} : KOk v t → Typed l ts → Typed (v :: l) (t :: ts)
theorem Typed.app {v : V} {t : Int} (hv : KOk v t) : ∀ {l : List V} {ts : List Int}, Typed l ts → Typed (l ++ [v]) (ts ++ [t])
  | _, _, .nil => .cons hv .nil
  | _, _, .cons h1 h2 => .cons h1 (h2.app hv)
theorem cmpK {a b : V} {k : Int} (h1 : KOk a k) (h2 : KOk b k) : a.kind = 0 ∨ b.kind = 0 ∨ a.kind = b.kind := by simp only [KOk] at *; omega
theorem eOp_res {e : X} {l : List V} {ts : List Int} {w : Int} (hk : OpKind e) (hl : l.length = e.args.length) (hg : ∀ v ∈ l, v.Good) (ht : Typed l ts) (hr : rresult e ts = (w, 0)) : Res w (eOp e l) := by
  obtain ⟨_, hc⟩ := hk.cases
  match l, hl, hg, ht with
  | [], hl, _, _ => simp at hl; omega
  | [a], hl, hg, .cons (t := t) ha .nil =>
    have hga := hg a (by simp)
    simp only [List.length_cons, List.length_nil] at hl
    have : e.kind = 3 ∨ e.kind = 4 ∨ e.kind = 6 := by omega
    simp only [eOp]
    rcases this with h | h | h
    · simp only [rresult, h] at hr
      obtain ⟨rfl, h2⟩ := rfitL_ok _ _ _ _ _ _ hr
      rw [h]
      exact lnot_res hga (ha.trans (h2 t (by simp)))
    · simp only [rresult, h] at hr
      obtain ⟨rfl, h2⟩ := rfitL_ok _ _ _ _ _ _ hr
      rw [h]
      exact vArith_res (op := 10) (a := ⟨1, 0, ⟨#[]⟩⟩) (.inr rfl) (ha.trans (h2 t (by simp)))
    · simp only [rresult, h] at hr
      cases hr
      rw [h]
      exact .mk' (.inr rfl)
  | [a, b], hl, hg, .cons (t := t) ha (.cons (t := u) hb .nil) =>
    have hga := hg a (by simp)
    have hgb := hg b (by simp)
    simp only [List.length_cons, List.length_nil] at hl
    obtain ⟨h, ho⟩ : e.kind = 5 ∧ 1 ≤ e.op ∧ e.op ≤ 13 := by omega
    simp only [eOp, opBin]
    simp only [rresult, h] at hr
    have hr' : (bif decide (e.op ≤ 2) then rfitL [t, u] 2 2 [t, u] 0 else bif decide (9 ≤ e.op) then rfitL [t, u] 1 1 [t, u] 0 else rwantL [t, u] [t, u] 0 (-1)) = (w, 0) := hr
    by_cases h2 : e.op ≤ 2
    · rw [show decide (e.op ≤ 2) = true by simpa using h2] at hr'
      obtain ⟨rfl, h3⟩ := rfitL_ok _ _ _ _ _ _ hr'
      have ka := ha.trans (h3 t (by simp))
      have kb := hb.trans (h3 u (by simp))
      have : e.op = 1 ∨ e.op = 2 := by omega
      rcases this with h4 | h4 <;> rw [h4]
      · exact lor_res hga hgb ka kb
      · exact land_res hga hgb ka kb
    · rw [show decide (e.op ≤ 2) = false by simpa using h2] at hr'
      have e1 : (e.op == 1) = false := by simp; omega
      have e2 : (e.op == 2) = false := by simp; omega
      rw [e1, e2]
      by_cases h9 : 9 ≤ e.op
      · rw [show decide (9 ≤ e.op) = true by simpa using h9] at hr'
        rw [show decide (e.op ≤ 8) = false by simp; omega]
        obtain ⟨rfl, h3⟩ := rfitL_ok _ _ _ _ _ _ hr'
        exact vArith_res (ha.trans (h3 t (by simp))) (hb.trans (h3 u (by simp)))
      · rw [show decide (9 ≤ e.op) = false by simpa using h9] at hr'
        rw [show decide (e.op ≤ 8) = true by simp; omega]
        obtain ⟨k, rfl, h3⟩ := rwantL_ok _ _ _ _ _ hr'
        exact vCmp_res (cmpK (ha.trans (h3 t (by simp))) (hb.trans (h3 u (by simp))))
  | [a, b, c], hl, hg, .cons (t := t) ha (.cons (t := u) hb (.cons (t := x) hc' .nil)) =>
    simp only [List.length_cons, List.length_nil] at hl
    have h : e.kind = 7 := by omega
    simp only [rresult, h] at hr
    obtain ⟨k, rfl, h3⟩ := rwantL_ok _ _ _ _ _ hr
    have ka := ha.trans (h3 t (by simp))
    have kb := hb.trans (h3 u (by simp))
    have kc := hc'.trans (h3 x (by simp))
    simp only [eOp, opBet]
    exact vBetween_res (cmpK kb ka) (cmpK ka kc)
  | a :: b :: c :: d :: r, hl, _, _ => simp only [List.length_cons] at hl; omega
/-- Arguments. -/
theorem evL_res {fT : X → Int × Int} {f : X → V × Int} {e : X} {tf vf : List Fr} {tb : List Tb} {w : Int} (hk : OpKind e) : ∀ (l : List X) (i j : Nat) (ts : List Int) (out : List V), (∀ x ∈ l, (f x).1.Good ∧ ((fT x).2 = 0 → Res (fT x).1 (f x))) → Typed out ts → (∀ v ∈ out, v.Good) → out.length + l.length = e.args.length → rtyL fT e tf tb l i ts = (w, 0) → Res w (evL f (eOp e) e vf tb l j out)
  | [], i, j, ts, out, _, ht, hg, hl, hr => eOp_res hk (by simpa using hl) hg ht hr
  | x :: r, i, j, ts, out, hx, ht, hg, hl, hr => by
    simp only [rtyL, Bool.cond_eq_ite] at hr
    split at hr
    · rename_i h; simp at h hr; exact absurd hr.2 h
    · rename_i h
      have h0 : (fT x).2 = 0 := by simpa using h
      have hf := hx x (by simp)
      have hres := hf.2 h0
      simp only [evL]
      refine Res.ite (fun _ => .null _ hres.code) fun h1 => ?_
      have h2 : (f x).2 = 0 := by simpa using h1
      exact evL_res hk r _ _ _ _ (fun y hy => hx y (by simp [hy])) (ht.app (hres.kind h2)) (fun v hv => (List.mem_append.1 hv).elim (hg v) fun h => by simp only [List.mem_singleton] at h; exact h ▸ hf.1) (by simp at hl ⊢; omega) hr
end Go.AM

namespace Go.AM
set_option maxRecDepth 100000
set_option maxHeartbeats 1000000
set_option linter.unusedSimpArgs false
set_option linter.unusedVariables false
theorem shape0_formed {k o : Int} {xs : List X} (h : shape0 k o xs = true) : formed0 k o xs = true := by
  simp only [shape0, Bool.cond_eq_ite, cellsX_length] at h
  simp only [formed0, Bool.cond_eq_ite, cellsX_length]
  simp at h ⊢
  repeat' split at h
  all_goals simp_all
theorem shape1_formed {k o : Int} {xs : List X} {qs : List Qy} {st : Bool} {it wh : List X} (h : shape1 k o xs qs st it wh = true) : formed1 k o xs qs it wh = true := by
  have hk : k = 1 ∨ k = 2 ∨ k = 3 ∨ k = 4 ∨ k = 5 ∨ k = 6 ∨ k = 7 ∨ k = 8 ∨ k = 9 ∨ k = 10 ∨ k = 11 ∨ k = 12 ∨ (k ≠ 1 ∧ k ≠ 2 ∧ k ≠ 3 ∧ k ≠ 4 ∧ k ≠ 5 ∧ k ≠ 6 ∧ k ≠ 7 ∧ k ≠ 8 ∧ k ≠ 9 ∧ k ≠ 10 ∧ k ≠ 11 ∧ k ≠ 12) := by omega
  rcases hk with rfl | rfl | rfl | rfl | rfl | rfl | rfl | rfl | rfl | rfl | rfl | rfl | ⟨h1, h2, h3, h4, h5, h6, h7, h8, h9, h10, h11, h12⟩
  all_goals simp [shape1, Bool.cond_eq_ite, *] at h
  all_goals (try simp [formed1, Bool.cond_eq_ite, h])
theorem shape_formed {e : X} (h : shape e = true) : formed e = true := by
  unfold shape at h
  unfold formed
  cases hs : e.sub with
  | nil => rw [hs] at h; exact shape0_formed h
  | cons q r => rw [hs] at h; exact shape1_formed h
/-- A frame without values. -/
def er (f : Fr) : Fr := ⟨f.name, f.strict, f.cols, []⟩
theorem getD_er (frs : List Fr) (k : Nat) : (frs.map er).getD k frNull = er (frs.getD k frNull) := by
  simp only [List.getD_eq_getElem?_getD, List.getElem?_map]
  cases frs[k]? <;> rfl
theorem rres_er (frs : List Fr) (q n : Str) : ∀ k, rres (frs.map er) q n k = rres frs q n k
  | 0 => rfl
  | k + 1 => by
    simp only [rres, rresI_eq, getD_er, rres_er frs q n k]
    rfl
theorem rResolve_er (frs : List Fr) (q n : Str) : rResolve (frs.map er) q n = rResolve frs q n := by
  unfold rResolve; rw [List.length_map, rres_er]
theorem rFr_er (frs : List Fr) (q n : Str) : rFr (frs.map er) q n = er (rFr frs q n) := by
  unfold rFr; rw [rResolve_er, getD_er]
/-- The frames of types and those of values. -/
structure FrRel (tf vf : List Fr) : Prop where
  eq : tf.map er = vf.map er
  rows : ∀ f ∈ vf, RowOk f.cols f.vals
theorem FrRel.res {tf vf : List Fr} (h : FrRel tf vf) (q n : Str) : rResolve tf q n = rResolve vf q n := by rw [← rResolve_er tf, h.eq, rResolve_er]
theorem FrRel.cols {tf vf : List Fr} (h : FrRel tf vf) (q n : Str) : (rFr tf q n).cols = (rFr vf q n).cols := by
  have : er (rFr tf q n) = er (rFr vf q n) := by rw [← rFr_er, ← rFr_er, h.eq]
  exact (congrArg Fr.cols this : (er _).cols = (er _).cols)
theorem FrRel.ins {tf vf : List Fr} (h : FrRel tf vf) {t : Tb} {v : List V} (hv : RowOk t.sch.cols v) : FrRel (rInside tf t.sch []) (eInside vf t v) := by
  refine ⟨by simp only [rInside, eInside, List.map_append, h.eq]; rfl, fun f hf => ?_⟩
  simp only [eInside, List.mem_append, List.mem_singleton] at hf
  rcases hf with hf | rfl
  · exact h.rows f hf
  · exact hv
theorem rsrcL_eq (tb : List Tb) (n : Str) : ∀ (l : List Tb) (i : Nat), rsrcL tb n l i = match l.find? (fun t => findC t n) with | some t => (t.sch, true) | none => (⟨⟨#[]⟩, []⟩, false)
  | [], i => rfl
  | x :: r, i => by
    simp only [rsrcL, List.find?, findC]
    cases h : x.sch.name.toList == n.toList
    · exact rsrcL_eq tb n r _
    · rfl
theorem rSource_eq (tb : List Tb) (n : Str) : rSource tb n = match findS tb n with | some t => (t.sch, true) | none => (⟨⟨#[]⟩, []⟩, false) := rsrcL_eq tb n tb 0
theorem valF_agg {f : X → V × Int} {op : List V → V × Int} {agg : V × Int} {e : X} {frs : List Fr} {tb : List Tb} (h : formed e = true) (h8 : 8 ≤ e.kind) (h12 : e.kind ≤ 12) : valF f op agg e frs tb = agg := by
  have hk : e.kind = 8 ∨ e.kind = 9 ∨ e.kind = 10 ∨ e.kind = 11 ∨ e.kind = 12 := by omega
  unfold valF
  rw [h]
  rcases hk with hk | hk | hk | hk | hk <;> rw [hk] <;> rfl
theorem valF_op {f : X → V × Int} {op : List V → V × Int} {agg : V × Int} {e : X} {frs : List Fr} {tb : List Tb} (h : OpKind e) : valF f op agg e frs tb = evL f op e frs tb e.args 0 [] := by
  have hk := h.cases.2
  have hk : e.kind = 3 ∨ e.kind = 4 ∨ e.kind = 5 ∨ e.kind = 6 ∨ e.kind = 7 := by omega
  unfold valF
  rw [h.fok]
  rcases hk with hk | hk | hk | hk | hk <;> rw [hk] <;> rfl
abbrev COk (c : Int) : Prop := c = 0 ∨ c = 6 ∨ c = 7
theorem rowI_code {f : X → V × Int} {k item : Int} (hk : k = 10 → item = 0 ∨ item = 1) : ∀ (l : List X) (its : List V), (∀ x ∈ l, Res item (f x)) → COk (rowI f k l its).1
  | [], its, _ => .inl rfl
  | x :: r, its, h => by
    have hx := h x (by simp)
    have hr : ∀ y ∈ r, Res item (f y) := fun y hy => h y (by simp [hy])
    simp only [rowI]
    cases h1 : (f x).2 != 0
    · cases h2 : (f x).1.kind == 0
      · cases h3 : k == 10 && (f x).1.kind != 1
        · exact rowI_code hk r _ hr
        · have h4 := hx.kind (by simpa using h1)
          simp at h2 h3
          have := hk h3.1
          omega
      · exact rowI_code hk r _ hr
    · exact hx.code
theorem rowI_kind {f : X → V × Int} {k item : Int} : ∀ (l : List X) (its : List V), (∀ x ∈ l, Res item (f x)) → (∀ v ∈ its, v.kind = item) → ∀ v ∈ (rowI f k l its).2, v.kind = item
  | [], its, _, hi => hi
  | x :: r, its, h, hi => by
    have hx := h x (by simp)
    have hr : ∀ y ∈ r, Res item (f y) := fun y hy => h y (by simp [hy])
    simp only [rowI]
    cases h1 : (f x).2 != 0
    · cases h2 : (f x).1.kind == 0
      · cases h3 : k == 10 && (f x).1.kind != 1
        · refine rowI_kind r _ hr fun v hv => (List.mem_append.1 hv).elim (hi v) fun hv => ?_
          simp only [List.mem_singleton] at hv
          have h4 := hx.kind (by simpa using h1)
          simp at h2
          rw [hv]
          omega
        · exact hi
      · exact rowI_kind r _ hr hi
    · exact hi
theorem selR_code {tr : Rw → Bool × Int} {g : Rw → List V → Int × List V} : ∀ (l : List Rw) (n : Nat) (its : List V), (∀ r ∈ l, COk (tr r).2) → (∀ r ∈ l, ∀ its, COk (g r its).1) → COk (selR tr g l n its).1
  | [], n, its, _, _ => .inl rfl
  | r :: l, n, its, ht, hg => by
    have ht' : ∀ r ∈ l, COk (tr r).2 := fun y hy => ht y (by simp [hy])
    have hg' : ∀ r ∈ l, ∀ its, COk (g r its).1 := fun y hy => hg y (by simp [hy])
    simp only [selR]
    cases (tr r).2 != 0
    · cases (tr r).1
      · exact selR_code l _ _ ht' hg'
      · cases (g r its).1 != 0
        · exact selR_code l _ _ ht' hg'
        · exact hg r (by simp) its
    · exact ht r (by simp)
theorem eTrueL_code {f : X → V × Int} {ty : X → Int × Int} {wh : List X} (hc : rcondv ty wh = 0) (hf : ∀ x ∈ wh, (f x).1.Good ∧ ((ty x).2 = 0 → Res (ty x).1 (f x))) : COk (eTrueL f wh).2 := by
  cases wh with
  | nil => exact .inl rfl
  | cons x r =>
    obtain ⟨hg, hr⟩ := hf x (by simp)
    simp only [rcondv, rcond1] at hc
    cases h1 : (ty x).2 != 0
    · rw [h1] at hc
      have h0 : (ty x).2 = 0 := by simpa using h1
      have hres := hr h0
      cases h2 : rfits (ty x).1 2
      · rw [h2] at hc; simp at hc
      · have hk := rfits_ok h2
        simp only [eTrueL, eTrue1]
        cases h3 : (f x).2 == 0
        · exact hres.code
        · have h4 := hres.kind (by simpa using h3)
          rw [lvalid_ok hg (KOk.trans h4 hk)]
          exact hres.code
    · rw [h1] at hc
      simp at h1 hc
      exact absurd hc h1
theorem eAgg_res {sel : Int × Nat × List V} {e : X} {item w : Int} (h8 : 8 ≤ e.kind) (h12 : e.kind ≤ 12) (hc : COk sel.1) (hk : ∀ v ∈ sel.2.2, v.kind = item)
    (hw : w = if e.kind = 8 then 2 else if e.kind = 11 ∨ e.kind = 12 then item else 1) : Res w (eAgg sel e) := by
  unfold eAgg
  refine Res.ite (fun _ => .null _ hc) fun _ => Res.ite (fun h1 => ?_) fun h1 => Res.ite (fun h2 => ?_) fun h2 => Res.ite (fun _ => .null _ (.inl rfl)) fun _ => Res.ite (fun h3 => ?_) fun h3 => Res.ite (fun h4 => ?_) fun h4 => ?_
  · have h : e.kind = 8 := by simpa using h1
    simp [h] at hw; subst hw; exact .mk' (.inr rfl)
  · have h : e.kind = 9 := by simpa using h2
    simp [h] at hw; subst hw; exact .mk' (.inr rfl)
  · have h : e.kind = 10 := by simpa using h3
    simp [h] at hw; subst hw
    rw [eSum_eq]
    exact Res.ite (fun _ => .null _ (.inr (.inl rfl))) fun _ => .mk' (.inr rfl)
  · have h : e.kind = 11 := by simpa using h4
    simp [h] at hw; subst hw
    exact .mk' (minV_all (P := fun v => KOk v w) (fun v hv => .inr (hk v hv)) (.inl rfl))
  · have h : e.kind = 12 := by
      have a1 : e.kind ≠ 8 := by simpa using h1
      have a2 : e.kind ≠ 9 := by simpa using h2
      have a3 : e.kind ≠ 10 := by simpa using h3
      have a4 : e.kind ≠ 11 := by simpa using h4
      omega
    simp [h] at hw; subst hw
    exact .mk' (maxV_all (P := fun v => KOk v w) (fun v hv => .inr (hk v hv)) (.inl rfl))
/-- Types of queries. -/
theorem rtqL_ok {f : X → Int × Int} {cond : Int} {e : X} {q : Qy} {ins : List Fr} {tb : List Tb} {w : Int} (h8 : 8 ≤ e.kind) (h12 : e.kind ≤ 12) : ∀ (l : List X) (i : Nat) (item : Int), rtqL f cond e q ins tb l i item = (w, 0) → cond = 0 ∧ (∀ x ∈ l, (f x).2 = 0) ∧ ∃ it, (l = [] → it = item) ∧ (∀ x, l = [x] → it = (f x).1) ∧ (e.kind = 10 → it = 0 ∨ it = 1) ∧ w = if e.kind = 8 then 2 else if e.kind = 11 ∨ e.kind = 12 then it else 1
  | [], i, item, h => by
    have hkk : e.kind = 8 ∨ e.kind = 9 ∨ e.kind = 10 ∨ e.kind = 11 ∨ e.kind = 12 := by omega
    simp only [rtqL] at h
    cases h1 : cond != 0
    · rw [h1] at h
      refine ⟨by simpa using h1, fun x hx => (by cases hx), item, fun _ => rfl, fun x hx => (by cases hx), ?_, ?_⟩
      · intro h10
        rw [h10] at h
        cases h2 : rfits item 1
        · rw [h2] at h; simp at h
        · exact rfits_ok h2
      · rcases hkk with hk | hk | hk | hk | hk <;> simp [hk] at h ⊢
        all_goals first | omega | (cases h2 : rfits item 1 <;> simp [h2] at h; omega) | exact h.symm
    · rw [h1] at h
      simp at h1 h
      exact absurd h.2 h1
  | x :: r, i, item, h => by
    simp only [rtqL] at h
    cases h1 : (f x).2 != 0
    · rw [h1] at h
      obtain ⟨h2, h3, it, h4, h5, h6, h7⟩ := rtqL_ok h8 h12 r _ _ h
      refine ⟨h2, fun y hy => (List.mem_cons.1 hy).elim (fun hy => by rw [hy]; simpa using h1) (h3 y), it, fun hx => (by cases hx), fun y hy => ?_, h6, h7⟩
      cases hy
      exact h4 rfl
    · rw [h1] at h
      simp at h1 h
      exact absurd h.2 h1
/-- Tables whose rows fit. -/
structure TbT (tb : List Tb) : Prop where
  rows : ∀ x ∈ tb, ∀ r ∈ x.rows, RowOk x.sch.cols r.vals
  len : ∀ x ∈ tb, x.rows.length ≤ 1000
theorem TbT.g {tb : List Tb} (h : TbT tb) : TbG tb := ⟨fun x hx r hr v hv => (h.rows x hx r hr).good v hv, h.len⟩
theorem FrRel.g {tf vf : List Fr} (h : FrRel tf vf) : FsG vf := fun f hf v hv => (h.rows f hf).good v hv
theorem col_res {vf : List Fr} (hv : ∀ f ∈ vf, RowOk f.cols f.vals) {q n : Str} (h : (rResolve vf q n).2.2 = true) : (rResolve vf q n).2.1 < (rFr vf q n).vals.length ∧ KOk (valAt (rFr vf q n).vals (rResolve vf q n).2.1) (rCol vf q n).type := by
  obtain ⟨i, j, e, h1, h2⟩ := rResolve_ok h
  have hr := hv _ (List.mem_of_getElem? h1)
  have hl := hr.len
  have hj := at_lt h2
  rw [show (rResolve vf q n).2.1 = (j : Int) by rw [e]]
  refine ⟨by omega, ?_⟩
  obtain ⟨v, hvv⟩ := ex_at (l := (rFr vf q n).vals) (i := j) (by omega)
  have : valAt (rFr vf q n).vals (j : Int) = v := by simp [valAt, List.getD_eq_getElem?_getD, hvv]
  rw [this]
  exact (hr.at_ j _ v h2 hvv).kind
theorem sound : ∀ (n : Nat) (e : X) (tf vf : List Fr) (tb : List Tb) (w : Int), XOk n e → FrRel tf vf → TbT tb → rtype n e tf tb = (w, 0) → Res w (eval n e vf tb)
  | 0, e, tf, vf, tb, w, h, _, _, _ => h.elim
  | n + 1, e, tf, vf, tb, w, hx, hf, ht, h => by
    have ih := sound n
    obtain ⟨hx1, hx2, hx3, hx4⟩ := id hx
    have hgood : ∀ x, XOk n x → (eval n x vf tb).1.Good := fun x hx => eval_good n x vf tb hx hf.g ht.g
    unfold rtype at h
    unfold eval
    cases hs : e.sub with
    | nil =>
      rw [hs] at h
      simp only [rtyF0] at h
      cases h1 : shape e
      · rw [h1] at h; simp at h
      · rw [h1] at h
        have hfm := shape_formed h1
        by_cases k1 : e.kind = 1
        · simp [k1] at h
          simp only [valF, hfm, k1]
          exact .mk' (.inr h)
        · by_cases k2 : e.kind = 2
          · have e1 : (e.kind == 1) = false := by simpa using k1
            have e2 : (e.kind == 2) = true := by simpa using k2
            simp only [e1, e2, Bool.not_true, cond_true, cond_false] at h
            simp only [valF, hfm, e1, e2, Bool.not_true, cond_true, cond_false, sResolve_eq, ← hf.res]
            cases h3 : (rResolve tf e.table e.name).2.2
            · rw [h3] at h; simp at h
            · rw [h3] at h
              simp only [Bool.not_true, cond_false, Prod.mk.injEq, and_true] at h
              have h4 := col_res hf.rows (q := e.table) (n := e.name) (by rw [← hf.res]; exact h3)
              rw [← hf.res] at h4
              have h5 : decide ((((List.map V.cells (rFr vf e.table e.name).vals).length : Nat) : Int) ≤ (rResolve tf e.table e.name).2.1) = false := by simp; omega
              simp only [Bool.not_true, cond_false, h5]
              refine .mk' ?_
              have h6 : (rCol tf e.table e.name).type = (rCol vf e.table e.name).type := by
                unfold rCol; rw [hf.cols, hf.res]
              rw [← h, h6]
              exact h4.2
          · have hop : OpKind e := ⟨hfm, k1, k2, by
              have h0 := hfm
              unfold formed at h0
              rw [hs] at h0
              have := formed0_cases h0
              omega⟩
            rw [valF_op hop]
            have e1 : (e.kind == 1) = false := by simpa using k1
            have e2 : (e.kind == 2) = false := by simpa using k2
            simp only [e1, e2, Bool.not_true, cond_false] at h
            exact evL_res hop e.args 0 0 [] [] (fun x hx => ⟨hgood x (hx3 x hx), fun h0 => ih x tf vf tb _ (hx3 x hx) hf ht (Prod.ext rfl h0)⟩) .nil (fun v hv => (by cases hv)) (by simp) h
    | cons q r =>
      rw [hs] at h
      obtain ⟨hq1, hq2, hq3⟩ := hx4 q (by rw [hs]; simp)
      simp only [rtyF1] at h
      cases h1 : shape e
      · rw [h1] at h; simp at h
      · rw [h1] at h
        have hfm := shape_formed h1
        have hfc : (e.args.length = 0 ∧ (q :: r).length = 1 ∧ q.wh.length ≤ 1 ∧ (((e.kind = 8 ∨ e.kind = 9) ∧ q.items.length = 0) ∨ ((e.kind = 10 ∨ e.kind = 11 ∨ e.kind = 12) ∧ q.items.length = 1))) := by
          have h0 := hfm
          unfold formed at h0
          rw [hs] at h0
          exact formed1_cases (by simp) h0
        have h8 : 8 ≤ e.kind := by omega
        have h12 : e.kind ≤ 12 := by omega
        rw [valF_agg hfm h8 h12]
        have e1 : (e.kind == 1) = false := by simp; omega
        have e2 : (e.kind == 2) = false := by simp; omega
        simp only [e1, e2, Bool.not_true, cond_false, rtqF, rIns, rSource_eq] at h
        unfold evalA
        rw [hs]
        simp only
        cases hfd : findS tb q.frm with
        | none => rw [hfd] at h; simp at h
        | some t =>
          rw [hfd] at h
          simp only [Bool.not_true, cond_false] at h
          have htm := findS_mem hfd
          obtain ⟨hcond, hit, it, hi0, hi1, hi10, hw⟩ := rtqL_ok h8 h12 q.items 0 1 h
          have hins : ∀ r ∈ t.rows, FrRel (rInside tf t.sch []) (eInside vf t r.vals) := fun r hr => hf.ins (ht.rows t htm r hr)
          have hres : ∀ r ∈ t.rows, ∀ x ∈ q.items, Res it (eval n x (eInside vf t r.vals) tb) := by
            intro r hr x hxi
            have hlen : q.items.length ≤ 1 := by omega
            have hq : q.items = [x] := by
              match hqi : q.items, hxi, hlen with
              | [y], hxi, _ => simp at hxi; rw [hxi]
              | y :: z :: l, _, hlen => simp at hlen
            rw [hi1 x hq]
            exact ih x _ _ tb _ (hq2 x hxi) (hins r hr) ht (Prod.ext rfl (hit x hxi))
          refine eAgg_res h8 h12 ?_ ?_ hw
          · refine selR_code _ _ _ (fun r hr => ?_) (fun r hr its => rowI_code (item := it) (fun h => hi10 h) _ _ (hres r hr))
            exact eTrueL_code (ty := fun x => rtype n x (rInside tf t.sch []) tb) hcond fun x hx => ⟨eval_good n x _ tb (hq3 x hx) (hins r hr).g ht.g, fun h0 => ih x _ _ tb _ (hq3 x hx) (hins r hr) ht (Prod.ext rfl h0)⟩
          · exact selR_all (P := fun v => v.kind = it) _ _ _ _ _ (fun r hr its hi => rowI_kind _ _ (hres r hr) hi) (fun v hv => (by cases hv))
/-- What the statement says. -/
theorem sound_law (n : Nat) (l : List Fr) (m : List Tb) (e : X) (he : XOk n e) (hl : FsT l) (hm : StoreOk m) : Sound (rtype n e l m) (eval n e l m) := by
  have h : (rtype n e l m).2 = 0 → Res (rtype n e l m).1 (eval n e l m) := fun h0 => sound n e l l m _ he ⟨rfl, hl.rows⟩ ⟨fun x hx => (hm.tabs x hx).1.rows, fun x hx => (hm.tabs x hx).1.len⟩ (Prod.ext rfl h0)
  exact ⟨fun h0 => (h h0).code, fun h0 => (h h0).kind⟩
theorem c_EvaluateTyped (l : List Int) : ACallsTo E0 S.law15_EvaluateTyped [isl l, .agg [.un, .un, .un, .un, .un, .un, .un, .un, .un, .un]] [] (bv true) [] := by
  obtain ⟨b, rfl, h⟩ := x_law15_EvaluateTyped l sound_law
  exact h
end Go.AM
