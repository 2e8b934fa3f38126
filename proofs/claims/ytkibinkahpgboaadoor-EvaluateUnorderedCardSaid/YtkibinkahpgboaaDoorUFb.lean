/-
  The plain law of EvaluateTyped.
-/
import Derived.Test.YtkibinkahpgboaaDoorUFa
import Derived.Test.YtkibinkahpgboaaDoorUEd
import Derived.Lib.Strings
namespace Go.AM
set_option maxRecDepth 100000
set_option maxHeartbeats 1000000
set_option linter.unusedSimpArgs false
set_option linter.unusedVariables false
/- ### the order of values -/
theorem bl_irrefl : ∀ x : List UInt8, Op.bytesLess x x = false
  | [] => rfl
  | a :: x => by simp [Op.bytesLess, bl_irrefl x]
theorem bl_tri : ∀ x y : List UInt8, Op.bytesLess x y = true ∨ x = y ∨ Op.bytesLess y x = true
  | [], [] => .inr (.inl rfl)
  | [], b :: y => .inl rfl
  | a :: x, [] => .inr (.inr rfl)
  | a :: x, b :: y => by
    rcases bl_tri x y with h | h | h <;> simp only [Op.bytesLess, h, Bool.or_eq_true, Bool.and_eq_true, decide_eq_true_eq, beq_iff_eq, and_true, List.cons.injEq]
    all_goals (have := @UInt8.lt_or_lt_of_ne a b; have := Classical.em (a = b); grind)
theorem bl_trans : ∀ {x y z : List UInt8}, Op.bytesLess x y = true → Op.bytesLess y z = true → Op.bytesLess x z = true
  | x, y, [], _, h2 => by cases y <;> simp [Op.bytesLess] at h2
  | x, [], c :: z, h1, _ => by cases x <;> simp [Op.bytesLess] at h1
  | [], b :: y, c :: z, _, _ => rfl
  | a :: x, b :: y, c :: z, h1, h2 => by
    simp only [Op.bytesLess, Bool.or_eq_true, Bool.and_eq_true, decide_eq_true_eq, beq_iff_eq] at h1 h2 ⊢
    rcases h1 with h1 | ⟨h1, h1'⟩ <;> rcases h2 with h2 | ⟨h2, h2'⟩
    · exact .inl (UInt8.lt_trans h1 h2)
    · exact .inl (h2 ▸ h1)
    · exact .inl (h1 ▸ h2)
    · exact .inr ⟨h1.trans h2, bl_trans h1' h2'⟩
theorem toList_data' (a : ByteArray) : a.toList = a.data.toList := Lib.toList_data a
theorem str_ext {a b : Str} (h : a.toList = b.toList) : a = b := by
  rw [toList_data', toList_data'] at h
  cases a; cases b; simp at h; rw [h]
/-- a is before b. -/
def ltV (a b : V) : Prop := a.kind < b.kind ∨ (a.kind = b.kind ∧ (a.int < b.int ∨ (a.int = b.int ∧ ltS a.text b.text = true)))
theorem ltV_irrefl (a : V) : ¬ ltV a a := by
  have := bl_irrefl a.text.toList
  simp [ltV, ltS, this]
theorem ltV_trans {a b c : V} (h1 : ltV a b) (h2 : ltV b c) : ltV a c := by
  unfold ltV at *
  rcases h1 with h1 | ⟨e1, h1 | ⟨f1, h1⟩⟩ <;> rcases h2 with h2 | ⟨e2, h2 | ⟨f2, h2⟩⟩
  all_goals first | (left; omega) | (right; refine ⟨by omega, ?_⟩; first | (left; omega) | (right; exact ⟨by omega, bl_trans h1 h2⟩))
theorem ltV_tri (a b : V) : ltV a b ∨ a = b ∨ ltV b a := by
  unfold ltV
  rcases Int.lt_trichotomy a.kind b.kind with h | h | h
  · exact .inl (.inl h)
  · rcases Int.lt_trichotomy a.int b.int with g | g | g
    · exact .inl (.inr ⟨h, .inl g⟩)
    · rcases bl_tri a.text.toList b.text.toList with k | k | k
      · exact .inl (.inr ⟨h, .inr ⟨g, k⟩⟩)
      · have := str_ext k
        refine .inr (.inl ?_)
        cases a; cases b; simp_all
      · exact .inr (.inr (.inr ⟨h.symm, .inr ⟨g.symm, k⟩⟩))
    · exact .inr (.inr (.inr ⟨h.symm, .inl g⟩))
  · exact .inr (.inr (.inl h))
theorem cmpS_neg (a b : Str) : decide (cmpS a b < 0) = ltS a b := by
  unfold cmpS; cases ltS a b <;> cases eqS a b <;> rfl
theorem cmpS_pos (a b : Str) : 0 < cmpS a b ↔ ltS b a = true := by
  unfold cmpS ltS eqS
  rcases bl_tri a.toList b.toList with h | h | h
  · have h2 : Op.bytesLess b.toList a.toList = false := by
      rw [Bool.eq_false_iff]; intro h2
      have := bl_irrefl a.toList
      rw [bl_trans h h2] at this; cases this
    simp [h, h2]
  · have := bl_irrefl b.toList
    simp [h, this]
  · have h2 : Op.bytesLess a.toList b.toList = false := by
      rw [Bool.eq_false_iff]; intro h2
      have := bl_irrefl a.toList
      rw [bl_trans h2 h] at this; cases this
    have h3 : (a.toList == b.toList) = false := by
      rw [beq_eq_false_iff_ne]; intro e
      have := bl_irrefl a.toList
      rw [e] at h h2; rw [h] at h2; cases h2
    simp [h, h2, h3]
theorem cmpI_lt {a b : Int} (h : a < b) : cmpI a b = -1 := by simp [cmpI, h]
theorem cmpI_eq {a b : Int} (h : a = b) : cmpI a b = 0 := by simp [cmpI, h]
theorem cmpI_gt {a b : Int} (h : b < a) : cmpI a b = 1 := by
  have : ¬ a < b := by omega
  simp [cmpI, h, this]
theorem orI3 (x y z : Int) : orI [x, y, z] = if x = 0 then (if y = 0 then z else y) else x := by
  simp only [orI]; split <;> (try rfl); split <;> (try rfl); split <;> simp_all
theorem cmpV_neg (a b : V) : cmpV a b < 0 ↔ ltV a b := by
  have h : cmpS a.text b.text < 0 ↔ ltS a.text b.text = true := by rw [← cmpS_neg]; simp
  unfold cmpV ltV
  rw [orI3]
  rcases Int.lt_trichotomy a.kind b.kind with h1 | h1 | h1
  · rw [cmpI_lt h1]; simp [h1]
  · rw [cmpI_eq h1]
    rcases Int.lt_trichotomy a.int b.int with h2 | h2 | h2
    · rw [cmpI_lt h2]; simp [h1, h2]
    · rw [cmpI_eq h2]; simp [h1, h2, h]
    · rw [cmpI_gt h2]
      have e1 : ¬ a.int < b.int := by omega
      have e2 : ¬ a.int = b.int := by omega
      simp [h1, e1, e2]
  · rw [cmpI_gt h1]
    have e1 : ¬ a.kind < b.kind := by omega
    have e2 : ¬ a.kind = b.kind := by omega
    simp [e1, e2]
theorem cmpV_pos (a b : V) : 0 < cmpV a b ↔ ltV b a := by
  have h := cmpS_pos a.text b.text
  unfold cmpV ltV
  rw [orI3]
  rcases Int.lt_trichotomy b.kind a.kind with h1 | h1 | h1
  · rw [cmpI_gt h1]; simp [h1]
  · rw [cmpI_eq h1.symm]
    rcases Int.lt_trichotomy b.int a.int with h2 | h2 | h2
    · rw [cmpI_gt h2]; simp [h1, h2]
    · rw [cmpI_eq h2.symm]; simp [h1, h2, h]
    · rw [cmpI_lt h2]
      have e1 : ¬ b.int < a.int := by omega
      have e2 : ¬ b.int = a.int := by omega
      simp [h1, e1, e2]
  · rw [cmpI_lt h1]
    have e1 : ¬ b.kind < a.kind := by omega
    have e2 : ¬ b.kind = a.kind := by omega
    simp [e1, e2]
/- ### least and greatest items -/
theorem minL_spec (l0 : List V) : ∀ (l : List V) (i : Nat) (m : V), (minL l0 l i m = m ∨ minL l0 l i m ∈ l) ∧ ¬ ltV m (minL l0 l i m) ∧ ∀ v ∈ l, ¬ ltV v (minL l0 l i m)
  | [], i, m => ⟨.inl rfl, ltV_irrefl m, fun v hv => (by cases hv)⟩
  | x :: r, i, m => by
    simp only [minL]
    by_cases h : ltV x m
    · have e : decide (cmpV x m < 0) = true := by simpa using (cmpV_neg x m).2 h
      rw [e, cond_true]
      obtain ⟨h1, h2, h3⟩ := minL_spec l0 r (i + 1) x
      refine ⟨.inr (h1.elim (fun h => by simp [h]) fun h => by simp [h]), fun h4 => h2 (ltV_trans h h4), fun v hv => (List.mem_cons.1 hv).elim (fun e => e ▸ h2) (h3 v)⟩
    · have e : decide (cmpV x m < 0) = false := by simpa [cmpV_neg] using fun h4 => h ((cmpV_neg x m).1 h4)
      rw [e, cond_false]
      obtain ⟨h1, h2, h3⟩ := minL_spec l0 r (i + 1) m
      refine ⟨h1.imp id fun h => by simp [h], h2, fun v hv => (List.mem_cons.1 hv).elim (fun e h4 => ?_) (h3 v)⟩
      subst e
      rcases ltV_tri v m with h5 | h5 | h5
      · exact h h5
      · exact h2 (h5 ▸ h4)
      · exact h2 (ltV_trans h5 h4)
theorem maxL_spec (l0 : List V) : ∀ (l : List V) (i : Nat) (m : V), (maxL l0 l i m = m ∨ maxL l0 l i m ∈ l) ∧ ¬ ltV (maxL l0 l i m) m ∧ ∀ v ∈ l, ¬ ltV (maxL l0 l i m) v
  | [], i, m => ⟨.inl rfl, ltV_irrefl m, fun v hv => (by cases hv)⟩
  | x :: r, i, m => by
    simp only [maxL]
    by_cases h : ltV m x
    · have e : decide (0 < cmpV x m) = true := by simpa using (cmpV_pos x m).2 h
      rw [e, cond_true]
      obtain ⟨h1, h2, h3⟩ := maxL_spec l0 r (i + 1) x
      refine ⟨.inr (h1.elim (fun h => by simp [h]) fun h => by simp [h]), fun h4 => h2 (ltV_trans h4 h), fun v hv => (List.mem_cons.1 hv).elim (fun e => e ▸ h2) (h3 v)⟩
    · have e : decide (0 < cmpV x m) = false := by simpa [cmpV_pos] using fun h4 => h ((cmpV_pos x m).1 h4)
      rw [e, cond_false]
      obtain ⟨h1, h2, h3⟩ := maxL_spec l0 r (i + 1) m
      refine ⟨h1.imp id fun h => by simp [h], h2, fun v hv => (List.mem_cons.1 hv).elim (fun e h4 => ?_) (h3 v)⟩
      subst e
      rcases ltV_tri v m with h5 | h5 | h5
      · exact h2 (ltV_trans h4 h5)
      · exact h2 (h5 ▸ h4)
      · exact h h5
theorem minV_perm {l l' : List V} (hp : l.Perm l') : minV l = minV l' := by
  cases l with
  | nil => rw [hp.nil_eq]
  | cons x r =>
    cases l' with
    | nil => exact absurd hp.symm.nil_eq (by simp)
    | cons y s =>
      simp only [minV, List.drop_succ_cons, List.drop_zero, List.headD_cons]
      obtain ⟨a1, a2, a3⟩ := minL_spec (x :: r) r 1 x
      obtain ⟨b1, b2, b3⟩ := minL_spec (y :: s) s 1 y
      have hm := fun v => hp.mem_iff (a := v)
      rcases ltV_tri (minL (x :: r) r 1 x) (minL (y :: s) s 1 y) with h | h | h
      · have : minL (x :: r) r 1 x ∈ y :: s := (hm _).1 (List.mem_cons.2 a1)
        exact ((List.mem_cons.1 this).elim (fun e => b2 (e ▸ h)) fun e => b3 _ e h).elim
      · exact h
      · have : minL (y :: s) s 1 y ∈ x :: r := (hm _).2 (List.mem_cons.2 b1)
        exact ((List.mem_cons.1 this).elim (fun e => a2 (e ▸ h)) fun e => a3 _ e h).elim
theorem maxV_perm {l l' : List V} (hp : l.Perm l') : maxV l = maxV l' := by
  cases l with
  | nil => rw [hp.nil_eq]
  | cons x r =>
    cases l' with
    | nil => exact absurd hp.symm.nil_eq (by simp)
    | cons y s =>
      simp only [maxV, List.drop_succ_cons, List.drop_zero, List.headD_cons]
      obtain ⟨a1, a2, a3⟩ := maxL_spec (x :: r) r 1 x
      obtain ⟨b1, b2, b3⟩ := maxL_spec (y :: s) s 1 y
      have hm := fun v => hp.mem_iff (a := v)
      rcases ltV_tri (maxL (x :: r) r 1 x) (maxL (y :: s) s 1 y) with h | h | h
      · have : maxL (y :: s) s 1 y ∈ x :: r := (hm _).2 (List.mem_cons.2 b1)
        exact ((List.mem_cons.1 this).elim (fun e => a2 (e ▸ h)) fun e => a3 _ e h).elim
      · exact h
      · have : maxL (x :: r) r 1 x ∈ y :: s := (hm _).1 (List.mem_cons.2 a1)
        exact ((List.mem_cons.1 this).elim (fun e => b2 (e ▸ h)) fun e => b3 _ e h).elim
/- ### sums -/
theorem u64_eq (n : Int) : IntKind.u64.wrap n = n % 18446744073709551616 := wrapU n
theorem sumL_swap (l0 r : List Int) (x y : Int) (i : Nat) (h w : Int) (hh : U64 h) (hw : U64 w) : sumL l0 (x :: y :: r) i h w = sumL l0 (y :: x :: r) i h w := by
  simp only [sumL, add64, u64_eq]
  simp only [U64] at hh hw
  generalize x.fdiv _ % 18446744073709551616 = a
  generalize y.fdiv _ % 18446744073709551616 = b
  congr 1
  · omega
  · omega
theorem sumL_perm (l0 : List Int) {l l' : List Int} (hp : l.Perm l') : ∀ (i : Nat) (h w : Int), U64 h → U64 w → sumL l0 l i h w = sumL l0 l' i h w := by
  induction hp with
  | nil => intro i h w _ _; rfl
  | cons x _ ih => intro i h w hh hw; simp only [sumL]; refine ih _ _ _ ?_ ?_ <;> (simp only [U64, add64] at *; omega)
  | swap x y r => intro i h w hh hw; exact sumL_swap l0 r y x i h w hh hw
  | trans _ _ ih1 ih2 => intro i h w hh hw; rw [ih1 i h w hh hw, ih2 i h w hh hw]
theorem sumL_l0 (l0 l1 : List Int) : ∀ (l : List Int) (i : Nat) (h w : Int), sumL l0 l i h w = sumL l1 l i h w
  | [], _, _, _ => rfl
  | x :: r, i, h, w => by simp only [sumL]; exact sumL_l0 l0 l1 r _ _ _
theorem aSum_perm {l l' : List Int} (hp : l.Perm l') : aSum l = aSum l' := by
  unfold aSum
  rw [sumL_perm l hp 0 0 0 (by simp [U64]) (by simp [U64])]
  exact sumL_l0 _ _ _ _ _ _
theorem eSum_perm {l l' : List V} (hp : l.Perm l') : eSum l = eSum l' := by
  rw [eSum_eq, eSum_eq, aSum_perm (hp.map V.int)]
end Go.AM

namespace Go.AM
set_option maxRecDepth 100000
set_option maxHeartbeats 1000000
set_option linter.unusedSimpArgs false
set_option linter.unusedVariables false
/-- The same rows, in any order, with any numbers. -/
structure TbSame (t u : Tb) : Prop where
  sch : t.sch = u.sch
  rows : (t.rows.map Rw.vals).Perm (u.rows.map Rw.vals)
def TbsP : List Tb → List Tb → Prop
  | [], [] => True
  | t :: r, u :: s => TbSame t u ∧ TbsP r s
  | _, _ => False
theorem findS_P (n : Str) : ∀ {a b : List Tb}, TbsP a b → (findS a n = none ∧ findS b n = none) ∨ ∃ t u, findS a n = some t ∧ findS b n = some u ∧ TbSame t u
  | [], [], _ => .inl ⟨rfl, rfl⟩
  | [], _ :: _, h => h.elim
  | _ :: _, [], h => h.elim
  | t :: r, u :: s, ⟨h1, h2⟩ => by
    have ih := findS_P n h2
    have e : findC u n = findC t n := by simp only [findC, h1.sch]
    unfold findS at ih ⊢
    simp only [List.find?, e]
    cases h : findC t n
    · exact ih
    · exact .inr ⟨t, u, rfl, rfl, h1⟩
/-- Equal values; both an error or none. -/
structure SameR {α : Type} (a b : α × Int) : Prop where
  val : a.1 = b.1
  err : a.2 = 0 ↔ b.2 = 0
theorem SameR.rfl' {α : Type} (a : α × Int) : SameR a a := ⟨rfl, Iff.rfl⟩
theorem SameR.of {α : Type} {a b : α × Int} (h : a = b) : SameR a b := h ▸ .rfl' a
theorem SameR.eq0 {α : Type} {a b : α × Int} (h : SameR a b) (h0 : a.2 = 0) : b = a := Prod.ext h.val.symm (by rw [h0]; exact h.err.1 h0)
theorem evL_P {f g : X → V × Int} {op : List V → V × Int} {e : X} {frs : List Fr} {a b : List Tb} : ∀ (l : List X) (i : Nat) (out : List V), (∀ x ∈ l, SameR (f x) (g x)) → SameR (evL f op e frs a l i out) (evL g op e frs b l i out)
  | [], i, out, _ => .rfl' _
  | x :: r, i, out, h => by
    have hx := h x (by simp)
    have hr : ∀ y ∈ r, SameR (f y) (g y) := fun y hy => h y (by simp [hy])
    simp only [evL]
    by_cases h0 : (f x).2 = 0
    · have e0 := hx.eq0 h0
      rw [e0, h0]
      exact evL_P r _ _ hr
    · have g0 : (g x).2 ≠ 0 := fun h => h0 (hx.err.2 h)
      have e1 : ((f x).2 != 0) = true := by simpa using h0
      have e2 : ((g x).2 != 0) = true := by simpa using g0
      rw [e1, e2]
      exact ⟨rfl, by simp [h0, g0]⟩
theorem eTrueL_P {f g : X → V × Int} : ∀ (l : List X), (∀ x ∈ l, SameR (f x) (g x)) → SameR (eTrueL f l) (eTrueL g l)
  | [], _ => .rfl' _
  | x :: r, h => by
    have hx := h x (by simp)
    simp only [eTrueL, eTrue1]
    by_cases h0 : (f x).2 = 0
    · have e0 := hx.eq0 h0
      rw [e0, h0]
      exact .rfl' _
    · have g0 : (g x).2 ≠ 0 := fun h => h0 (hx.err.2 h)
      have e1 : ((f x).2 == 0) = false := by simpa using h0
      have e2 : ((g x).2 == 0) = false := by simpa using g0
      rw [e1, e2]
      exact ⟨rfl, by simp [h0, g0]⟩
/-- A row's items: the code; the items, if there is no error. -/
theorem rowI_app (f : X → V × Int) (k : Int) : ∀ (l : List X) (its : List V), (rowI f k l its).1 = (rowI f k l []).1 ∧ ((rowI f k l []).1 = 0 → (rowI f k l its).2 = its ++ (rowI f k l []).2)
  | [], its => ⟨rfl, fun _ => by simp [rowI]⟩
  | x :: r, its => by
    obtain ⟨h1, h2⟩ := rowI_app f k r its
    obtain ⟨h3, h4⟩ := rowI_app f k r (its ++ [(f x).1])
    obtain ⟨h5, h6⟩ := rowI_app f k r [(f x).1]
    simp only [rowI, List.nil_append]
    cases (f x).2 != 0 <;> cases (f x).1.kind == 0 <;> cases (k == 10 && (f x).1.kind != 1)
    all_goals (try exact ⟨rfl, fun h => by simp at h ⊢; try exact h2 h⟩)
    all_goals simp only [cond_true, cond_false]
    all_goals first
      | exact ⟨h1, h2⟩
      | exact ⟨h3.trans h5.symm, fun h => by rw [h4 (h5 ▸ h), h6 (h5 ▸ h)]; simp⟩
      | exact ⟨rfl, fun h => by simp_all⟩
theorem rowI_P {f g : X → V × Int} {k : Int} : ∀ (l : List X) (its : List V), (∀ x ∈ l, SameR (f x) (g x)) → ((rowI f k l its).1 = 0 ↔ (rowI g k l its).1 = 0) ∧ ((rowI f k l its).1 = 0 → rowI g k l its = rowI f k l its)
  | [], its, _ => ⟨Iff.rfl, fun _ => rfl⟩
  | x :: r, its, h => by
    have hx := h x (by simp)
    have hr : ∀ y ∈ r, SameR (f y) (g y) := fun y hy => h y (by simp [hy])
    simp only [rowI]
    by_cases h0 : (f x).2 = 0
    · have e0 := hx.eq0 h0
      rw [e0, h0]
      have e : ((0 : Int) != 0) = false := rfl
      simp only [e, cond_false]
      cases (f x).1.kind == 0 <;> cases (k == 10 && (f x).1.kind != 1)
      · exact rowI_P r _ hr
      · exact ⟨Iff.rfl, fun _ => rfl⟩
      · exact rowI_P r _ hr
      · exact rowI_P r _ hr
    · have g0 : (g x).2 ≠ 0 := fun h => h0 (hx.err.2 h)
      have e1 : ((f x).2 != 0) = true := by simpa using h0
      have e2 : ((g x).2 != 0) = true := by simpa using g0
      rw [e1, e2]
      exact ⟨by simp [h0, g0], fun h => absurd h h0⟩
/-- A row is good for a condition and a code. -/
def okR (tr : Bool × Int) (c : Int) : Prop := tr.2 = 0 ∧ (tr.1 = true → c = 0)
theorem selR_char {tr : Rw → Bool × Int} {g : Rw → List V → Int × List V} (hg : ∀ r its, (g r its).1 = (g r []).1 ∧ ((g r []).1 = 0 → (g r its).2 = its ++ (g r []).2)) : ∀ (l : List Rw) (n : Nat) (its : List V), ((selR tr g l n its).1 = 0 ↔ ∀ r ∈ l, okR (tr r) (g r []).1) ∧ ((∀ r ∈ l, okR (tr r) (g r []).1) → (selR tr g l n its).2 = (n + (l.filter fun r => (tr r).1).length, its ++ (l.filter fun r => (tr r).1).flatMap fun r => (g r []).2))
  | [], n, its => by simp [selR]
  | r :: l, n, its => by
    obtain ⟨g1, g2⟩ := hg r its
    have ih := fun n its => selR_char (tr := tr) hg l n its
    simp only [selR, List.forall_mem_cons]
    by_cases h0 : (tr r).2 = 0
    · have e0 : ((tr r).2 != 0) = false := by simpa using h0
      rw [e0, cond_false]
      cases h1 : (tr r).1
      · have h2 : okR (tr r) (g r []).1 := ⟨h0, by simp [h1]⟩
        obtain ⟨i1, i2⟩ := ih n its
        refine ⟨by simp [h2, i1], fun h => ?_⟩
        simp only [cond_false, i2 h.2, List.filter_cons, h1]; simp
      · rw [cond_true]
        by_cases h3 : (g r []).1 = 0
        · have h2 : okR (tr r) (g r []).1 := ⟨h0, fun _ => h3⟩
          obtain ⟨i1, i2⟩ := ih (n + 1) (its ++ (g r []).2)
          have e3 : ((g r its).1 != 0) = false := by simpa [g1] using h3
          rw [e3, cond_false, g2 h3]
          refine ⟨by simp [h2, i1], fun h => ?_⟩
          simp only [i2 h.2, List.filter_cons, h1]; simp; omega
        · have h2 : ¬ okR (tr r) (g r []).1 := fun h => h3 (h.2 h1)
          have e3 : ((g r its).1 != 0) = true := by simpa [g1] using h3
          rw [e3, cond_true]
          exact ⟨by simp [h2, g1, h3], fun h => absurd h.1 h2⟩
    · have h2 : ¬ okR (tr r) (g r []).1 := fun h => h0 h.1
      have e0 : ((tr r).2 != 0) = true := by simpa using h0
      rw [e0, cond_true]
      exact ⟨by simp [h0, h2], fun h => absurd h.1 h2⟩
theorem selRows_char {tr : Rw → Bool × Int} {rv : Rw → Int × List V} : ∀ (l : List Rw) (out : List (List V)), ((selRows tr rv l out).1 = 0 ↔ ∀ r ∈ l, okR (tr r) (rv r).1) ∧ ((∀ r ∈ l, okR (tr r) (rv r).1) → (selRows tr rv l out).2 = out ++ (l.filter fun r => (tr r).1).map fun r => (rv r).2)
  | [], out => by simp [selRows]
  | r :: l, out => by
    have ih := fun out => selRows_char (tr := tr) (rv := rv) l out
    simp only [selRows, List.forall_mem_cons]
    by_cases h0 : (tr r).2 = 0
    · have e0 : ((tr r).2 != 0) = false := by simpa using h0
      rw [e0, cond_false]
      cases h1 : (tr r).1
      · have h2 : okR (tr r) (rv r).1 := ⟨h0, by simp [h1]⟩
        obtain ⟨i1, i2⟩ := ih out
        refine ⟨by simp [h2, i1], fun h => ?_⟩
        simp only [cond_false, i2 h.2, List.filter_cons, h1]; simp
      · rw [cond_true]
        by_cases h3 : (rv r).1 = 0
        · have h2 : okR (tr r) (rv r).1 := ⟨h0, fun _ => h3⟩
          obtain ⟨i1, i2⟩ := ih (out ++ [(rv r).2])
          have e3 : ((rv r).1 != 0) = false := by simpa using h3
          rw [e3, cond_false]
          refine ⟨by simp [h2, i1], fun h => ?_⟩
          simp only [i2 h.2, List.filter_cons, h1]; simp
        · have h2 : ¬ okR (tr r) (rv r).1 := fun h => h3 (h.2 h1)
          have e3 : ((rv r).1 != 0) = true := by simpa using h3
          rw [e3, cond_true]
          exact ⟨by simp [h2, h3], fun h => absurd h.1 h2⟩
    · have h2 : ¬ okR (tr r) (rv r).1 := fun h => h0 h.1
      have e0 : ((tr r).2 != 0) = true := by simpa using h0
      rw [e0, cond_true]
      exact ⟨by simp [h0, h2], fun h => absurd h.1 h2⟩
theorem flatMap_cg {α β : Type} {f g : α → List β} : ∀ {l : List α}, (∀ x ∈ l, f x = g x) → l.flatMap f = l.flatMap g
  | [], _ => rfl
  | x :: r, h => by rw [List.flatMap_cons, List.flatMap_cons, h x (by simp), flatMap_cg fun y hy => h y (by simp [hy])]
theorem flatMap_pm {α β : Type} (f : α → List β) {l l' : List α} (h : l.Perm l') : (l.flatMap f).Perm (l'.flatMap f) := by
  induction h with
  | nil => exact .refl _
  | cons x _ ih => rw [List.flatMap_cons, List.flatMap_cons]; exact ih.append_left _
  | swap x y r =>
    simp only [List.flatMap_cons, ← List.append_assoc]
    exact List.perm_append_comm.append_right _
  | trans _ _ h1 h2 => exact h1.trans h2
theorem okR_P {a b : Bool × Int} {c d : Int} (h : SameR a b) (hc : c = 0 ↔ d = 0) : okR a c ↔ okR b d := by
  unfold okR; rw [h.val, h.err, hc]
theorem eAgg_err {s : Int × Nat × List V} {e : X} (h : s.1 ≠ 0) : eAgg s e = (V.null, s.1) := by
  have e0 : (s.1 != 0) = true := by simpa using h
  unfold eAgg; rw [e0, cond_true]
theorem eAgg_perm {n : Nat} {a b : List V} {e : X} (h : a.Perm b) : eAgg (0, n, a) e = eAgg (0, n, b) e := by
  unfold eAgg
  simp only [h.length_eq, eSum_perm h, minV_perm h, maxV_perm h]
/-- Two tables of the same rows; a condition and a contribution of each row that are alike. -/
theorem agg_P {t u : Tb} (h : TbSame t u) {T T' : List V → Bool × Int} {G G' : List V → List V → Int × List V} {e : X}
    (hT : ∀ v, SameR (T v) (T' v)) (hG : ∀ v, ((G v []).1 = 0 ↔ (G' v []).1 = 0) ∧ ((G v []).1 = 0 → G' v [] = G v []))
    (gG : ∀ v its, (G v its).1 = (G v []).1 ∧ ((G v []).1 = 0 → (G v its).2 = its ++ (G v []).2)) (gG' : ∀ v its, (G' v its).1 = (G' v []).1 ∧ ((G' v []).1 = 0 → (G' v its).2 = its ++ (G' v []).2)) :
    SameR (eAgg (selR (fun r => T r.vals) (fun r its => G r.vals its) t.rows 0 []) e) (eAgg (selR (fun r => T' r.vals) (fun r its => G' r.vals its) u.rows 0 []) e) := by
  obtain ⟨a1, a2⟩ := selR_char (tr := fun r => T r.vals) (g := fun r its => G r.vals its) (fun r its => gG r.vals its) t.rows 0 []
  obtain ⟨b1, b2⟩ := selR_char (tr := fun r => T' r.vals) (g := fun r its => G' r.vals its) (fun r its => gG' r.vals its) u.rows 0 []
  have ht : (∀ r ∈ t.rows, okR (T r.vals) (G r.vals []).1) ↔ ∀ v ∈ t.rows.map Rw.vals, okR (T v) (G v []).1 := by simp
  have hu : (∀ r ∈ u.rows, okR (T' r.vals) (G' r.vals []).1) ↔ ∀ v ∈ u.rows.map Rw.vals, okR (T' v) (G' v []).1 := by simp
  have hk : (∀ r ∈ t.rows, okR (T r.vals) (G r.vals []).1) ↔ (∀ r ∈ u.rows, okR (T' r.vals) (G' r.vals []).1) := by
    rw [ht, hu]
    constructor
    · exact fun h1 v hv => (okR_P (hT v) (hG v).1).1 (h1 v (h.rows.mem_iff.2 hv))
    · exact fun h1 v hv => (okR_P (hT v) (hG v).1).2 (h1 v (h.rows.mem_iff.1 hv))
  by_cases ho : ∀ r ∈ t.rows, okR (T r.vals) (G r.vals []).1
  · have ho' := hk.1 ho
    have c1 := a1.2 ho
    have c2 := b1.2 ho'
    have d1 := a2 ho
    have d2 := b2 ho'
    have e1 : selR (fun r => T r.vals) (fun r its => G r.vals its) t.rows 0 [] = (0, ((t.rows.map Rw.vals).filter fun v => (T v).1).length, ((t.rows.map Rw.vals).filter fun v => (T v).1).flatMap fun v => (G v []).2) := by
      refine Prod.ext c1 (d1.trans ?_)
      simp [List.filter_map, List.flatMap_map, Function.comp_def]
    have e2 : selR (fun r => T' r.vals) (fun r its => G' r.vals its) u.rows 0 [] = (0, ((u.rows.map Rw.vals).filter fun v => (T' v).1).length, ((u.rows.map Rw.vals).filter fun v => (T' v).1).flatMap fun v => (G' v []).2) := by
      refine Prod.ext c2 (d2.trans ?_)
      simp [List.filter_map, List.flatMap_map, Function.comp_def]
    rw [e1, e2]
    have eT : (fun v => (T' v).1) = fun v => (T v).1 := funext fun v => (hT v).val.symm
    rw [eT]
    have hp := h.rows.filter fun v => (T v).1
    have hq : (((t.rows.map Rw.vals).filter fun v => (T v).1).flatMap fun v => (G v []).2).Perm (((u.rows.map Rw.vals).filter fun v => (T v).1).flatMap fun v => (G' v []).2) := by
      have hz : (((u.rows.map Rw.vals).filter fun v => (T v).1).flatMap fun v => (G' v []).2) = ((u.rows.map Rw.vals).filter fun v => (T v).1).flatMap fun v => (G v []).2 := by
        refine flatMap_cg fun v hv => ?_
        obtain ⟨hv1, hv2⟩ := List.mem_filter.1 hv
        have := (ht.1 ho v (h.rows.mem_iff.2 hv1)).2 hv2
        rw [(hG v).2 this]
      rw [hz]
      exact flatMap_pm _ hp
    rw [hp.length_eq]
    exact .of (eAgg_perm hq)
  · have c1 := fun h => ho (a1.1 h)
    have c2 := fun h => ho (hk.2 (b1.1 h))
    rw [eAgg_err c1, eAgg_err c2]
    exact ⟨rfl, ⟨fun h => absurd h c1, fun h => absurd h c2⟩⟩
theorem evalA_P {F G : List Fr → X → V × Int} {e : X} {frs : List Fr} {a b : List Tb} (h : TbsP a b) (hF : ∀ w x, SameR (F w x) (G w x)) : SameR (evalA F e frs a) (evalA G e frs b) := by
  unfold evalA
  cases e.sub with
  | nil => exact .rfl' _
  | cons q _ =>
    simp only
    rcases findS_P q.frm h with ⟨h1, h2⟩ | ⟨t, u, h1, h2, h3⟩
    · rw [h1, h2]; exact .rfl' _
    · rw [h1, h2]
      have ei : ∀ v, eInside frs u v = eInside frs t v := fun v => by simp only [eInside, h3.sch]
      simp only [ei]
      exact agg_P h3 (T := fun v => eTrueL (F (eInside frs t v)) q.wh) (T' := fun v => eTrueL (G (eInside frs t v)) q.wh) (G := fun v its => rowI (F (eInside frs t v)) e.kind q.items its) (G' := fun v its => rowI (G (eInside frs t v)) e.kind q.items its)
        (fun v => eTrueL_P _ fun x _ => hF _ x) (fun v => rowI_P _ _ fun x _ => hF _ x) (fun v its => rowI_app _ _ _ its) (fun v its => rowI_app _ _ _ its)
theorem SameR.ite {α : Type} {c : Bool} {a b a' b' : α × Int} (h1 : SameR a a') (h2 : SameR b b') : SameR (bif c then a else b) (bif c then a' else b') := by cases c <;> assumption
theorem eval_P {a b : List Tb} (h : TbsP a b) : ∀ (n : Nat) (e : X) (frs : List Fr), SameR (eval n e frs a) (eval n e frs b)
  | 0, _, _ => .rfl' _
  | n + 1, e, frs => by
    have hA : SameR (evalA (fun w x => eval n x w a) e frs a) (evalA (fun w x => eval n x w b) e frs b) := evalA_P h fun w x => eval_P h n x w
    simp only [eval, valF]
    repeat' (first | exact hA | exact .rfl' _ | exact evL_P _ _ _ (fun x _ => eval_P h n x frs) | apply SameR.ite)
theorem itemsR_P {f g : X → V × Int} : ∀ (l : List X), (∀ x ∈ l, SameR (f x) (g x)) → ((itemsR f l).1 = 0 ↔ (itemsR g l).1 = 0) ∧ ((itemsR f l).1 = 0 → itemsR g l = itemsR f l)
  | [], _ => ⟨Iff.rfl, fun _ => rfl⟩
  | x :: r, h => by
    have hx := h x (by simp)
    obtain ⟨i1, i2⟩ := itemsR_P r fun y hy => h y (by simp [hy])
    simp only [itemsR]
    by_cases h0 : (f x).2 = 0
    · have e0 := hx.eq0 h0
      rw [e0, h0]
      have e : ((0 : Int) != 0) = false := rfl
      simp only [e, cond_false]
      by_cases h1 : (itemsR f r).1 = 0
      · rw [i2 h1]; exact ⟨Iff.rfl, fun _ => rfl⟩
      · have g1 : (itemsR g r).1 ≠ 0 := fun h => h1 (i1.2 h)
        have e1 : ((itemsR f r).1 != 0) = true := by simpa using h1
        have e2 : ((itemsR g r).1 != 0) = true := by simpa using g1
        rw [e1, e2]
        exact ⟨by simp [h1, g1], fun h => absurd h h1⟩
    · have g0 : (g x).2 ≠ 0 := fun h => h0 (hx.err.2 h)
      have e1 : ((f x).2 != 0) = true := by simpa using h0
      have e2 : ((g x).2 != 0) = true := by simpa using g0
      rw [e1, e2]
      exact ⟨by simp [h0, g0], fun h => absurd h h0⟩
/-- What a row of these values gives. -/
def rowW (f : X → V × Int) (q : Qy) (v : List V) : Int × List V := bif q.star then (0, v) else itemsR f q.items
theorem rowV_W (f : X → V × Int) (q : Qy) (r : Rw) : rowV f q r = rowW f q r.vals := rfl
theorem rowW_P {f g : X → V × Int} (q : Qy) (v : List V) (h : ∀ x, SameR (f x) (g x)) : ((rowW f q v).1 = 0 ↔ (rowW g q v).1 = 0) ∧ ((rowW f q v).1 = 0 → rowW g q v = rowW f q v) := by
  unfold rowW
  cases q.star
  · exact itemsR_P _ fun x _ => h x
  · exact ⟨Iff.rfl, fun _ => rfl⟩
theorem eRows_err {s : Int × List (List V)} (h : s.1 ≠ 0) : eRows s = ([], s.1) := by
  have e0 : (s.1 != 0) = true := by simpa using h
  unfold eRows; rw [e0, cond_true]
/-- The rows of a query: the same bag, or both an error. -/
theorem evalRows_P {a b : List Tb} (h : TbsP a b) (n : Nat) (q : Qy) (frs : List Fr) : (evalRows n q frs a).1.Perm (evalRows n q frs b).1 ∧ ((evalRows n q frs a).2 = 0 ↔ (evalRows n q frs b).2 = 0) := by
  unfold evalRows
  rcases findS_P q.frm h with ⟨h1, h2⟩ | ⟨t, u, h1, h2, h3⟩
  · rw [h1, h2]; exact ⟨.refl _, Iff.rfl⟩
  · rw [h1, h2]
    have ei : ∀ v, eInside frs u v = eInside frs t v := fun v => by simp only [eInside, h3.sch]
    simp only [ei, rowV_W]
    let T := fun v => eTrueL (fun x => eval n x (eInside frs t v) a) q.wh
    let T' := fun v => eTrueL (fun x => eval n x (eInside frs t v) b) q.wh
    let R := fun v => rowW (fun x => eval n x (eInside frs t v) a) q v
    let R' := fun v => rowW (fun x => eval n x (eInside frs t v) b) q v
    have hT : ∀ v, SameR (T v) (T' v) := fun v => eTrueL_P _ fun x _ => eval_P h n x _
    have hR : ∀ v, ((R v).1 = 0 ↔ (R' v).1 = 0) ∧ ((R v).1 = 0 → R' v = R v) := fun v => rowW_P q v fun x => eval_P h n x _
    obtain ⟨a1, a2⟩ := selRows_char (tr := fun r => T r.vals) (rv := fun r => R r.vals) t.rows []
    obtain ⟨b1, b2⟩ := selRows_char (tr := fun r => T' r.vals) (rv := fun r => R' r.vals) u.rows []
    show (eRows (selRows (fun r => T r.vals) (fun r => R r.vals) t.rows [])).1.Perm (eRows (selRows (fun r => T' r.vals) (fun r => R' r.vals) u.rows [])).1 ∧ ((eRows (selRows (fun r => T r.vals) (fun r => R r.vals) t.rows [])).2 = 0 ↔ (eRows (selRows (fun r => T' r.vals) (fun r => R' r.vals) u.rows [])).2 = 0)
    have ht : (∀ r ∈ t.rows, okR (T r.vals) (R r.vals).1) ↔ ∀ v ∈ t.rows.map Rw.vals, okR (T v) (R v).1 := by simp
    have hu : (∀ r ∈ u.rows, okR (T' r.vals) (R' r.vals).1) ↔ ∀ v ∈ u.rows.map Rw.vals, okR (T' v) (R' v).1 := by simp
    have hk : (∀ r ∈ t.rows, okR (T r.vals) (R r.vals).1) ↔ (∀ r ∈ u.rows, okR (T' r.vals) (R' r.vals).1) := by
      rw [ht, hu]
      constructor
      · exact fun h1 v hv => (okR_P (hT v) (hR v).1).1 (h1 v (h3.rows.mem_iff.2 hv))
      · exact fun h1 v hv => (okR_P (hT v) (hR v).1).2 (h1 v (h3.rows.mem_iff.1 hv))
    by_cases ho : ∀ r ∈ t.rows, okR (T r.vals) (R r.vals).1
    · have ho' := hk.1 ho
      have e1 : selRows (fun r => T r.vals) (fun r => R r.vals) t.rows [] = (0, ((t.rows.map Rw.vals).filter fun v => (T v).1).map fun v => (R v).2) := by
        refine Prod.ext (a1.2 ho) ((a2 ho).trans ?_)
        simp [List.filter_map, Function.comp_def]
      have e2 : selRows (fun r => T' r.vals) (fun r => R' r.vals) u.rows [] = (0, ((u.rows.map Rw.vals).filter fun v => (T' v).1).map fun v => (R' v).2) := by
        refine Prod.ext (b1.2 ho') ((b2 ho').trans ?_)
        simp [List.filter_map, Function.comp_def]
      rw [e1, e2]
      have eT : (fun v => (T' v).1) = fun v => (T v).1 := funext fun v => (hT v).val.symm
      rw [eT]
      have hz : (((u.rows.map Rw.vals).filter fun v => (T v).1).map fun v => (R' v).2) = ((u.rows.map Rw.vals).filter fun v => (T v).1).map fun v => (R v).2 := by
        refine List.map_congr_left fun v hv => ?_
        obtain ⟨hv1, hv2⟩ := List.mem_filter.1 hv
        have := (ht.1 ho v (h3.rows.mem_iff.2 hv1)).2 hv2
        rw [(hR v).2 this]
      rw [hz]
      refine ⟨?_, Iff.rfl⟩
      show (((t.rows.map Rw.vals).filter fun v => (T v).1).map fun v => (R v).2).Perm _
      exact (h3.rows.filter _).map _
    · have c1 := fun h => ho (a1.1 h)
      have c2 := fun h => ho (hk.2 (b1.1 h))
      rw [eRows_err c1, eRows_err c2]
      exact ⟨.refl _, ⟨fun h => absurd h c1, fun h => absurd h c2⟩⟩
end Go.AM

namespace Go.AM
set_option maxRecDepth 100000
set_option maxHeartbeats 1000000
set_option linter.unusedSimpArgs false
set_option linter.unusedVariables false
/-- A comparison that is a total order. -/
structure CmpOk {α : Type} (c : α → α → Int) : Prop where
  zero : ∀ a b, c a b = 0 ↔ a = b
  anti : ∀ a b, c a b < 0 ↔ 0 < c b a
  trans : ∀ {a b d}, c a b < 0 → c b d < 0 → c a d < 0
def lexC {α : Type} (c : α → α → Int) : List α → List α → Int
  | [], [] => 0
  | [], _ :: _ => -1
  | _ :: _, [] => 1
  | a :: x, b :: y => if c a b = 0 then lexC c x y else c a b
theorem lexC_zero {α : Type} {c : α → α → Int} (h : CmpOk c) : ∀ a b, lexC c a b = 0 ↔ a = b
  | [], [] => by simp [lexC]
  | [], _ :: _ => by simp [lexC]
  | _ :: _, [] => by simp [lexC]
  | a :: x, b :: y => by
    have ih := lexC_zero h x y
    have hz := h.zero a b
    simp only [lexC, List.cons.injEq]
    split
    · rename_i e; simp [ih, hz.1 e]
    · rename_i e; exact ⟨fun k => absurd k e, fun k => absurd (hz.2 k.1) e⟩
theorem lexC_anti {α : Type} {c : α → α → Int} (h : CmpOk c) : ∀ a b, lexC c a b < 0 ↔ 0 < lexC c b a
  | [], [] => by simp [lexC]
  | [], _ :: _ => by simp [lexC]
  | _ :: _, [] => by simp [lexC]
  | a :: x, b :: y => by
    have ih := lexC_anti h x y
    have hz := h.zero a b
    have hz2 := h.zero b a
    have ha := h.anti a b
    simp only [lexC]
    by_cases e : a = b
    · rw [if_pos (hz.2 e), if_pos (hz2.2 e.symm)]; exact ih
    · rw [if_neg (fun k => e (hz.1 k)), if_neg (fun k => e (hz2.1 k).symm)]; exact ha
theorem lexC_trans {α : Type} {c : α → α → Int} (h : CmpOk c) : ∀ {a b d}, lexC c a b < 0 → lexC c b d < 0 → lexC c a d < 0
  | x, y, [], _, h2 => by cases y <;> simp [lexC] at h2
  | x, [], e :: z, h1, _ => by cases x <;> simp [lexC] at h1
  | [], b :: y, e :: z, _, _ => by simp [lexC]
  | a :: x, b :: y, e :: z, h1, h2 => by
    simp only [lexC] at h1 h2 ⊢
    by_cases e1 : a = b
    · subst e1
      rw [if_pos ((h.zero a a).2 rfl)] at h1
      by_cases e2 : a = e
      · subst e2
        rw [if_pos ((h.zero a a).2 rfl)] at h2 ⊢
        exact lexC_trans h h1 h2
      · rw [if_neg (fun k => e2 ((h.zero _ _).1 k))] at h2 ⊢
        exact h2
    · rw [if_neg (fun k => e1 ((h.zero _ _).1 k))] at h1
      by_cases e2 : b = e
      · subst e2
        rw [if_neg (fun k => e1 ((h.zero _ _).1 k))]
        exact h1
      · rw [if_neg (fun k => e2 ((h.zero _ _).1 k))] at h2
        have h3 := h.trans h1 h2
        rw [if_neg (by omega)]
        exact h3
theorem CmpOk.lex {α : Type} {c : α → α → Int} (h : CmpOk c) : CmpOk (lexC c) := ⟨lexC_zero h, lexC_anti h, lexC_trans h⟩
def byteC (a b : UInt8) : Int := if a < b then -1 else if b < a then 1 else 0
theorem byteC_ok : CmpOk byteC := by
  refine ⟨fun a b => ?_, fun a b => ?_, fun {a b d} h1 h2 => ?_⟩
  all_goals simp only [byteC, UInt8.lt_iff_toNat_lt, ← UInt8.toNat_inj] at *
  all_goals repeat' split
  all_goals (try omega)
  all_goals (repeat' split at h1)
  all_goals (try omega)
  all_goals (repeat' split at h2)
  all_goals omega
theorem compareBytes_lex : ∀ a b, Lib.compareBytes a b = lexC byteC a b
  | [], [] => rfl
  | [], _ :: _ => rfl
  | _ :: _, [] => rfl
  | a :: x, b :: y => by
    have ih := compareBytes_lex x y
    simp only [Lib.compareBytes, lexC, byteC, ih]
    by_cases h1 : a < b
    · simp [h1]
    · by_cases h2 : b < a
      · simp [h1, h2]
      · simp [h1, h2]
theorem cmpI_ok : CmpOk cmpI := by
  refine ⟨fun a b => ?_, fun a b => ?_, fun {a b d} h1 h2 => ?_⟩
  all_goals simp only [cmpI] at *
  all_goals repeat' split
  all_goals (try omega)
  all_goals (repeat' split at h1)
  all_goals (try omega)
  all_goals (repeat' split at h2)
  all_goals omega
theorem cmpB_ok : CmpOk cmpB := by
  have h := byteC_ok.lex
  refine ⟨fun a b => ?_, fun a b => ?_, fun {a b d} h1 h2 => ?_⟩
  · simp only [cmpB, compareBytes_lex, h.zero]
    constructor
    · intro e; cases a; cases b; simp at e; rw [e]
    · intro e; rw [e]
  · simp only [cmpB, compareBytes_lex]; exact h.anti _ _
  · simp only [cmpB, compareBytes_lex] at *; exact h.trans h1 h2
theorem rCmp_eq (a b : V) : rCmp a b = if cmpI a.kind b.kind = 0 then (if cmpI a.int b.int = 0 then cmpB a.text b.text else cmpI a.int b.int) else cmpI a.kind b.kind := by
  unfold rCmp cmpB3 cmpB2
  rcases Int.lt_trichotomy a.kind b.kind with h1 | h1 | h1
  · have e : (a.kind != b.kind) = true := by simp; omega
    rw [cmpI_lt h1]; simp [h1, e]
  · rw [cmpI_eq h1]
    rcases Int.lt_trichotomy a.int b.int with h2 | h2 | h2
    · have e : (a.int != b.int) = true := by simp; omega
      rw [cmpI_lt h2]; simp [h1, h2, e]
    · rw [cmpI_eq h2]; simp [h1, h2]
    · have e : (a.int != b.int) = true := by simp; omega
      have e2 : ¬ a.int < b.int := by omega
      rw [cmpI_gt h2]; simp [h1, e, e2]
  · have e : (a.kind != b.kind) = true := by simp; omega
    have e2 : ¬ a.kind < b.kind := by omega
    rw [cmpI_gt h1]; simp [e, e2]
theorem rCmp_ok : CmpOk rCmp := by
  have hi := cmpI_ok
  have hb := cmpB_ok
  refine ⟨fun a b => ?_, fun a b => ?_, fun {a b d} h1 h2 => ?_⟩
  · rw [rCmp_eq]
    have z1 := hi.zero a.kind b.kind
    have z2 := hi.zero a.int b.int
    have z3 := hb.zero a.text b.text
    constructor
    · intro h
      split at h
      · split at h
        · cases a; cases b; simp_all
        · omega
      · omega
    · rintro rfl
      simp [(hi.zero _ _).2 rfl, (hb.zero _ _).2 rfl]
  · rw [rCmp_eq, rCmp_eq]
    have z1 := hi.zero a.kind b.kind
    have z1' := hi.zero b.kind a.kind
    have z2 := hi.zero a.int b.int
    have z2' := hi.zero b.int a.int
    by_cases e1 : a.kind = b.kind
    · rw [if_pos (z1.2 e1), if_pos (z1'.2 e1.symm)]
      by_cases e2 : a.int = b.int
      · rw [if_pos (z2.2 e2), if_pos (z2'.2 e2.symm)]; exact hb.anti _ _
      · rw [if_neg (fun k => e2 (z2.1 k)), if_neg (fun k => e2 (z2'.1 k).symm)]; exact hi.anti _ _
    · rw [if_neg (fun k => e1 (z1.1 k)), if_neg (fun k => e1 (z1'.1 k).symm)]; exact hi.anti _ _
  · have key : ∀ x y : V, rCmp x y < 0 ↔ x.kind < y.kind ∨ (x.kind = y.kind ∧ (x.int < y.int ∨ (x.int = y.int ∧ cmpB x.text y.text < 0))) := by
      intro x y
      rw [rCmp_eq]
      rcases Int.lt_trichotomy x.kind y.kind with h1 | h1 | h1
      · rw [cmpI_lt h1]; simp [h1]
      · rw [cmpI_eq h1]
        rcases Int.lt_trichotomy x.int y.int with h2 | h2 | h2
        · rw [cmpI_lt h2]; simp [h1, h2]
        · rw [cmpI_eq h2]; simp [h1, h2]
        · have e : ¬ x.int < y.int := by omega
          have e2 : x.int ≠ y.int := by omega
          rw [cmpI_gt h2]; simp [h1, e, e2]
      · have e : ¬ x.kind < y.kind := by omega
        have e2 : x.kind ≠ y.kind := by omega
        rw [cmpI_gt h1]; simp [e, e2]
    rw [key] at h1 h2 ⊢
    rcases h1 with h1 | ⟨e1, h1 | ⟨f1, h1⟩⟩ <;> rcases h2 with h2 | ⟨e2, h2 | ⟨f2, h2⟩⟩
    all_goals first | (left; omega) | (right; refine ⟨by omega, ?_⟩; first | (left; omega) | (right; exact ⟨by omega, hb.trans h1 h2⟩))
theorem rRowsL_eq (a b : List V) : ∀ (l : List V) (i : Nat), i ≤ b.length → a.length = i + l.length → rRowsL a b l i = lexC rCmp l (b.drop i)
  | [], i, hi, ha => by
    simp only [rRowsL, List.length_map]
    simp at ha
    by_cases h : i = b.length
    · have e1 : b.drop i = [] := List.drop_of_length_le (by omega)
      have e2 : ¬ ((a.length : Nat) : Int) < (b.length : Nat) := by omega
      have e3 : ¬ ((b.length : Nat) : Int) < (a.length : Nat) := by omega
      rw [e1]; simp only [lexC, e2, e3, decide_false, cond_false]
    · have e2 : ((a.length : Nat) : Int) < (b.length : Nat) := by omega
      cases hd : b.drop i with
      | nil => have := congrArg List.length hd; simp at this; omega
      | cons y s => simp only [lexC, e2, decide_true, cond_true]
  | x :: r, i, hi, ha => by
    simp only [rRowsL, List.length_map]
    by_cases h : i < b.length
    · have e2 : ((i : Nat) : Int) < (b.length : Nat) := by omega
      have hv : valAt b ((i : Nat) : Int) = b[i] := by simp [valAt, h]
      rw [List.drop_eq_getElem_cons h]
      have ih := rRowsL_eq a b r (i + 1) (by omega) (by simp at ha; omega)
      simp only [e2, decide_true, cond_true, hv, ih, lexC]
      by_cases hz : rCmp x b[i] = 0
      · simp [hz]
      · have hb : (rCmp x b[i] != 0) = true := by simpa using hz
        simp [hz, hb]
    · have e2 : ¬ ((i : Nat) : Int) < (b.length : Nat) := by omega
      have e1 : b.drop i = [] := List.drop_of_length_le (by omega)
      have f1 : ¬ ((a.length : Nat) : Int) < (b.length : Nat) := by simp at ha; omega
      have f2 : ((b.length : Nat) : Int) < (a.length : Nat) := by simp at ha; omega
      rw [e1]
      simp only [e2, f1, f2, decide_false, decide_true, cond_false, cond_true, lexC]
theorem rRows_eq (a b : List V) : rRows a b = lexC rCmp a b := rRowsL_eq a b a 0 (by omega) (by omega)
theorem rRows_ok : CmpOk rRows := by
  have : rRows = lexC rCmp := funext fun a => funext fun b => rRows_eq a b
  rw [this]; exact rCmp_ok.lex
/- ### sorting -/
abbrev LeR (x y : List V) : Prop := ¬ 0 < rRows x y
theorem leR_iff (x y : List V) : LeR x y ↔ rRows x y < 0 ∨ x = y := by
  have h := rRows_ok.zero x y
  unfold LeR
  constructor
  · intro h1
    by_cases h2 : rRows x y = 0
    · exact .inr (h.1 h2)
    · exact .inl (by omega)
  · rintro (h1 | h1)
    · omega
    · rw [h.2 h1]; omega
theorem LeR.trans {x y z : List V} (h1 : LeR x y) (h2 : LeR y z) : LeR x z := by
  rw [leR_iff] at *
  rcases h1 with h1 | rfl
  · rcases h2 with h2 | rfl
    · exact .inl (rRows_ok.trans h1 h2)
    · exact .inl h1
  · exact h2
theorem leR_of_gt {x y : List V} (h : 0 < rRows y x) : LeR x y := (leR_iff x y).2 (.inl ((rRows_ok.anti x y).2 h))
theorem leR_antisymm {x y : List V} (h1 : LeR x y) (h2 : LeR y x) : x = y := by
  rw [leR_iff] at h1
  rcases h1 with h1 | h1
  · exact absurd ((rRows_ok.anti x y).1 h1) h2
  · exact h1
/-- Where a row is inserted, from the end. -/
def posR (t : List V) (out : List (List V)) : Nat → Nat
  | 0 => 0
  | k + 1 => bif decide (0 < rRows (out.getD k []) t) then posR t out k else k + 1
theorem posR_spec (t : List V) (out : List (List V)) : ∀ k, posR t out k ≤ k ∧ (∀ j, posR t out k ≤ j → j < k → 0 < rRows (out.getD j []) t) ∧ ∀ q, posR t out k = q + 1 → LeR (out.getD q []) t
  | 0 => ⟨Nat.le_refl _, fun j h1 h2 => by omega, fun q h => by simp [posR] at h⟩
  | k + 1 => by
    obtain ⟨h1, h2, h3⟩ := posR_spec t out k
    simp only [posR]
    by_cases h : 0 < rRows (out.getD k []) t
    · rw [decide_eq_true h, cond_true]
      refine ⟨by omega, fun j h4 h5 => ?_, h3⟩
      by_cases h6 : j = k
      · rw [h6]; exact h
      · exact h2 j h4 (by omega)
    · rw [decide_eq_false h, cond_false]
      refine ⟨Nat.le_refl _, fun j h4 h5 => by omega, fun q hq => ?_⟩
      have : q = k := by omega
      rw [this]; exact h
def insR (t : List V) (out : List (List V)) : List (List V) := out.take (posR t out out.length) ++ t :: out.drop (posR t out out.length)
theorem insR_perm (t : List V) (out : List (List V)) : (insR t out).Perm (t :: out) := by
  unfold insR
  refine List.perm_middle.trans ?_
  rw [List.take_append_drop]
theorem insR_sorted (t : List V) (out : List (List V)) (h : out.Pairwise LeR) : (insR t out).Pairwise LeR := by
  unfold insR
  obtain ⟨h1, h2, h3⟩ := posR_spec t out out.length
  generalize posR t out out.length = p at *
  have hs : (out.take p ++ out.drop p).Pairwise LeR := by rw [List.take_append_drop]; exact h
  obtain ⟨a1, a2, a3⟩ := List.pairwise_append.1 hs
  have hd : ∀ y ∈ out.drop p, LeR t y := fun y hy => by
    obtain ⟨i, hi, e⟩ := List.mem_iff_getElem.1 hy
    simp only [List.length_drop] at hi
    have h4 := h2 (p + i) (by omega) (by omega)
    rw [List.getD_eq_getElem?_getD, List.getElem?_eq_getElem (by omega), Option.getD_some] at h4
    rw [List.getElem_drop] at e
    rw [e] at h4
    exact leR_of_gt h4
  have ht : ∀ x ∈ out.take p, LeR x t := fun x hx => by
    cases p with
    | zero => simp at hx
    | succ q =>
      have h4 := h3 q rfl
      have hq : q < out.length := by omega
      rw [List.getD_eq_getElem?_getD, List.getElem?_eq_getElem hq, Option.getD_some] at h4
      have e : out.take (q + 1) = out.take q ++ [out[q]] := by rw [List.take_add_one, List.getElem?_eq_getElem hq]; rfl
      rw [e] at hx a1
      obtain ⟨_, _, b3⟩ := List.pairwise_append.1 a1
      rcases List.mem_append.1 hx with hx | hx
      · exact (b3 x hx _ (by simp)).trans h4
      · simp only [List.mem_singleton] at hx
        rw [hx]; exact h4
  refine List.pairwise_append.2 ⟨a1, List.pairwise_cons.2 ⟨hd, a2⟩, fun x hx y hy => ?_⟩
  rcases List.mem_cons.1 hy with rfl | hy
  · exact ht x hx
  · exact a3 x hx y hy
def sortR : List (List V) → List (List V) → List (List V)
  | [], out => out
  | t :: r, out => sortR r (insR t out)
theorem sortR_perm : ∀ (l out : List (List V)), (sortR l out).Perm (l ++ out)
  | [], out => .refl _
  | t :: r, out => ((sortR_perm r (insR t out)).trans ((insR_perm t out).append_left r)).trans List.perm_middle
theorem sortR_sorted : ∀ (l out : List (List V)), out.Pairwise LeR → (sortR l out).Pairwise LeR
  | [], _, h => h
  | t :: r, out, h => sortR_sorted r _ (insR_sorted t out h)
theorem sorted_eq : ∀ {a b : List (List V)}, a.Pairwise LeR → b.Pairwise LeR → a.Perm b → a = b
  | [], b, _, _, h => h.nil_eq
  | x :: r, [], _, _, h => absurd h.symm.nil_eq (by simp)
  | x :: r, y :: s, h1, h2, h => by
    obtain ⟨h3, h4⟩ := List.pairwise_cons.1 h1
    obtain ⟨h5, h6⟩ := List.pairwise_cons.1 h2
    have e : x = y := by
      rcases List.mem_cons.1 (h.mem_iff.1 (List.mem_cons_self (a := x) (l := r))) with e | e
      · exact e
      · rcases List.mem_cons.1 (h.mem_iff.2 (List.mem_cons_self (a := y) (l := s))) with e2 | e2
        · exact e2.symm
        · exact leR_antisymm (h3 y e2) (h5 x e)
    subst e
    rw [sorted_eq h4 h6 (List.Perm.cons_inv h)]
theorem sortR_eq {a b : List (List V)} (h : a.Perm b) : sortR a [] = sortR b [] := by
  refine sorted_eq (sortR_sorted a [] .nil) (sortR_sorted b [] .nil) ?_
  have h1 := sortR_perm a []
  have h2 := sortR_perm b []
  rw [List.append_nil] at h1 h2
  exact (h1.trans h).trans h2.symm
end Go.AM
