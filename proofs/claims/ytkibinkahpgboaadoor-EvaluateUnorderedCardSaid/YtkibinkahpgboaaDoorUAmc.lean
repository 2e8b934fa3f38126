/-
  Calls, guards, regions that draw their order.
-/
import Derived.Test.YtkibinkahpgboaaDoorUAmb
namespace Go.AM
open Go.RowKit
set_option linter.unusedSimpArgs false
set_option linter.unusedVariables false

theorem idx_some : ∀ (l : List Nat) (b i : Nat), idx l b = some i → l[i]? = some b
  | [], b, i, h => by cases h
  | x :: r, b, i, h => by
    unfold idx at h
    split at h
    · rename_i hx
      cases h
      have := Nat.eq_of_beq_eq_true hx
      simp [this]
    · cases hi : idx r b with
      | none => simp [hi] at h
      | some k =>
        simp only [hi, Option.map_some, Option.some.injEq] at h
        subst h
        simpa using idx_some r b k hi

theorem idx_none : ∀ (l : List Nat) (b : Nat), idx l b = none → b ∉ l
  | [], b, _ => by simp
  | x :: r, b, h => by
    unfold idx at h
    split at h
    · cases h
    · rename_i hx
      cases hi : idx r b with
      | some k => simp [hi] at h
      | none =>
        have hne : x ≠ b := by rintro rfl; simp [Nat.beq_refl] at hx
        simp only [List.mem_cons, not_or]
        exact ⟨Ne.symm hne, idx_none r b hi⟩

theorem distinct_nodup : ∀ (l : List Nat), distinct l = true → l.Nodup
  | [], _ => by simp
  | x :: r, h => by
    simp only [distinct, Bool.and_eq_true] at h
    refine List.nodup_cons.2 ⟨?_, distinct_nodup r h.2⟩
    cases hi : idx r x with
    | none => exact idx_none r x hi
    | some k => simp [hi] at h

theorem idx_of {l : List Nat} (hd : l.Nodup) {b i : Nat} (h : l[i]? = some b) : idx l b = some i := by
  cases hi : idx l b with
  | none => exact absurd (List.mem_of_getElem? h) (idx_none l b hi)
  | some k =>
    have h2 := idx_some l b k hi
    have hil := (List.getElem?_eq_some_iff.1 h).1
    have hkl := (List.getElem?_eq_some_iff.1 h2).1
    have e1 := (List.getElem?_eq_some_iff.1 h).2
    have e2 := (List.getElem?_eq_some_iff.1 h2).2
    have := (List.getElem_inj (h₀ := hil) (h₁ := hkl) hd).1 (e1.trans e2.symm)
    rw [this]

theorem setAll_length {α : Type} : ∀ (lend : List Nat) (ys l : List α), (setAll l lend ys).length = l.length
  | [], ys, l => by simp [setAll]
  | b :: r, [], l => by simp [setAll]
  | b :: r, y :: ys, l => by simp [setAll, setAll_length r ys]

theorem setAll_get {α : Type} : ∀ (lend : List Nat) (ys l : List α), lend.Nodup → lend.length = ys.length → (∀ b ∈ lend, b < l.length) → ∀ b, (setAll l lend ys)[b]? = match idx lend b with
    | some i => ys[i]?
    | none => l[b]?
  | [], ys, l, _, _, _, b => by simp [setAll, idx]
  | c :: r, [], l, _, hl, _, b => by simp at hl
  | c :: r, y :: ys, l, hd, hl, hlt, b => by
    obtain ⟨h1, h2⟩ := List.nodup_cons.1 hd
    simp only [setAll]
    rw [setAll_get r ys (l.set c y) h2 (by simpa using hl) (fun b hb => by simpa using hlt b (by simp [hb])) b]
    by_cases e : c = b
    · subst e
      have hi : idx r c = none := by
        cases hi : idx r c with
        | none => rfl
        | some k => exact absurd (List.mem_of_getElem? (idx_some r c k hi)) h1
      simp only [hi, idx, Nat.beq_refl]
      rw [List.getElem?_set_self (hlt c (by simp))]
      rfl
    · have hb : Nat.beq c b = false := by
        cases hh : Nat.beq c b with
        | false => rfl
        | true => exact absurd (Nat.eq_of_beq_eq_true hh) e
      simp only [idx, hb]
      cases hi : idx r b with
      | none => simp only [Option.map_none]; rw [List.getElem?_set_ne e]
      | some k => simp

theorem lendH_get {lend : List Nat} {h : Heap} : ∀ (l : List Nat) (hl : Heap), lendH lend h l = some hl → hl.length = l.length ∧ ∀ (i b : Nat), l[i]? = some b → ∃ x, h[b]? = some x ∧ hl[i]? = some (renBlk (idx lend) x)
  | [], hl, he => by cases he; simp
  | c :: r, hl, he => by
    unfold lendH at he
    split at he
    · rename_i x y hx hy
      cases he
      obtain ⟨h1, h2⟩ := lendH_get r y hy
      refine ⟨by simp [h1], fun i b hi => ?_⟩
      cases i with
      | zero => simp only [List.getElem?_cons_zero, Option.some.injEq] at hi; subst hi; exact ⟨x, hx, rfl⟩
      | succ i => simp only [List.getElem?_cons_succ] at hi; simpa using h2 i b hi
    · cases he

mutual
/-- Renaming: what the new names stand for is what the old ones stood for. -/
theorem ren_rel {T : TypeId → TI} {h h' : Heap} {β β' : List Con} {w : World} {S : Addr → Prop} {σ : Nat → Option Nat} (hσ : ∀ b i, σ b = some i → β'[i]? = β[b]? ∧ ∀ e xs sh, h[b]? = some (.row e xs sh) → h'[i]? = some (.row e xs sh)) :
    ∀ (x : AV) (y : Value), RelV T h β w S x y → RelV T h' β' w S (ren σ x) y
  | .un, y, _ => by simp only [ren]; exact .d _ _ (.un y)
  | .v _, y, hr => by simp only [ren]; exact .d _ _ (relD_of_d hr trivial)
  | .bl _, y, hr => by simp only [ren]; exact .d _ _ (relD_of_d hr trivial)
  | .sl _, y, hr => by simp only [ren]; exact .d _ _ (relD_of_d hr trivial)
  | .dp _, y, hr => by simp only [ren]; exact .d _ _ (relD_of_d hr trivial)
  | .nl, y, hr => by
    simp only [ren]
    cases hr with
    | d _ _ hd => cases hd
    | nl a => exact .nl a
  | .p b off, y, hr => by
    simp only [ren]
    split
    · rename_i i hi
      cases hr with
      | d _ _ hd => cases hd
      | p _ _ g hb => exact .p _ _ g (by rw [(hσ b i hi).1]; exact hb)
    · exact .d _ _ (.un y)
  | .own b n, y, hr => by
    simp only [ren]
    split
    · rename_i i hi
      cases hr with
      | d _ _ hd => cases hd
      | own _ _ _ e xs sh hb hn hy ho => exact .own _ _ _ e xs sh ((hσ b i hi).2 e xs sh hb) hn (fun he => by rw [(hσ b i hi).1]; exact hy he) ho
    · exact .d _ _ (.un y)
  | .ep b n k off, y, hr => by
    simp only [ren]
    split
    · rename_i i hi
      cases hr with
      | d _ _ hd => cases hd
      | ep _ _ _ _ g e xs sh hb hn hy => exact .ep _ _ _ _ g e xs sh ((hσ b i hi).2 e xs sh hb) hn (fun he => by rw [(hσ b i hi).1]; exact hy he)
    · exact .d _ _ (.un y)
  | .os b n lo, y, hr => by
    simp only [ren]
    split
    · rename_i i hi
      cases hr with
      | d _ _ hd => cases hd
      | os _ _ _ a c e xs sh hb hn hl hy => exact .os _ _ _ a c e xs sh ((hσ b i hi).2 e xs sh hb) hn hl (fun he => by rw [(hσ b i hi).1]; exact hy he)
    · exact .d _ _ (.un y)
  | .agg cs, y, hr => by
    obtain ⟨vs, rfl, hl, ho, hv⟩ := hr.agg_inv
    simp only [ren]
    obtain ⟨h1, h2⟩ := renL_rel hσ cs vs hl hv
    exact .agg _ _ h1 ho h2
  | .tup cs, y, hr => by
    obtain ⟨vs, rfl, hl, hv⟩ := hr.tup_inv
    simp only [ren]
    obtain ⟨h1, h2⟩ := renL_rel hσ cs vs hl hv
    exact .tup _ _ h1 h2
  | .fn f caps, y, hr => by
    simp only [ren]
    cases hr with
    | d _ _ hd => cases hd
    | fn _ _ vs hl hv =>
      obtain ⟨h1, h2⟩ := renL_rel hσ caps vs hl hv
      exact .fn f _ _ h1 h2
theorem renL_rel {T : TypeId → TI} {h h' : Heap} {β β' : List Con} {w : World} {S : Addr → Prop} {σ : Nat → Option Nat} (hσ : ∀ b i, σ b = some i → β'[i]? = β[b]? ∧ ∀ e xs sh, h[b]? = some (.row e xs sh) → h'[i]? = some (.row e xs sh)) :
    ∀ (l : List AV) (vs : List Value), l.length = vs.length → (∀ (i : Nat) (x : AV) (y : Value), l[i]? = some x → vs[i]? = some y → RelV T h β w S x y) →
      (renL σ l).length = vs.length ∧ ∀ (i : Nat) (x : AV) (y : Value), (renL σ l)[i]? = some x → vs[i]? = some y → RelV T h' β' w S x y
  | [], vs, hl, _ => ⟨by simpa [renL] using hl, by simp [renL]⟩
  | x :: l, [], hl, _ => by simp at hl
  | x :: l, v :: vs, hl, hv => by
    obtain ⟨h1, h2⟩ := renL_rel hσ l vs (by simpa using hl) (fun i a b ha hb => hv (i + 1) a b (by simpa using ha) (by simpa using hb))
    refine ⟨by simp [renL, h1], fun i a b ha hb => ?_⟩
    cases i with
    | zero =>
      simp only [renL, List.getElem?_cons_zero, Option.some.injEq] at ha hb
      subst ha; subst hb
      exact ren_rel hσ x v (hv 0 x v rfl rfl)
    | succ i =>
      simp only [renL, List.getElem?_cons_succ] at ha hb
      exact h2 i a b ha hb
end


theorem renBlk_row {σ : Nat → Option Nat} {x : Blk} {e : TypeId} {xs : List (List AV)} {sh : Bool} (h : renBlk σ x = .row e xs sh) : x = .row e xs sh := by
  cases x with
  | box cs => cases h
  | row e' xs' sh' => exact h
theorem renBlk_box {σ : Nat → Option Nat} {x : Blk} {cs : List AV} (h : renBlk σ x = .box cs) : ∃ ds, x = .box ds ∧ cs = renL σ ds := by
  cases x with
  | box ds => simp only [renBlk, Blk.box.injEq] at h; exact ⟨ds, rfl, h.symm⟩
  | row e' xs' sh' => cases h

section
variable {E : Env0} {h : Heap} {β : List Con} {S : Addr → Prop} {w : World}

/-- The names of what is lent. -/
def lendB (β : List Con) (lend : List Nat) : List Con := lend.map fun b => (β[b]?).getD (.nil none)

theorem lendB_get (β : List Con) (lend : List Nat) {i b : Nat} (hi : lend[i]? = some b) (hb : b < β.length) : (lendB β lend)[i]? = β[b]? := by
  simp [lendB, hi, List.getElem?_eq_getElem hb]

theorem Rel.lend (r : Rel E h β S w) {lend : List Nat} (hd : lend.Nodup) {hl : Heap} (hh : lendH lend h lend = some hl) :
    Rel E hl (lendB β lend) S w ∧ (∀ (b i : Nat), idx lend b = some i → (lendB β lend)[i]? = β[b]? ∧ ∀ e xs sh, h[b]? = some (.row e xs sh) → hl[i]? = some (.row e xs sh)) := by
  obtain ⟨hlen, hget⟩ := lendH_get lend hl hh
  have hlt : ∀ (i b : Nat), lend[i]? = some b → b < β.length := fun i b hi => by
    obtain ⟨x, hx, _⟩ := hget i b hi
    rw [r.len]
    exact (List.getElem?_eq_some_iff.1 hx).1
  have hσ : ∀ (b i : Nat), idx lend b = some i → (lendB β lend)[i]? = β[b]? ∧ ∀ e xs sh, h[b]? = some (.row e xs sh) → hl[i]? = some (.row e xs sh) := by
    intro b i hi
    have hli := idx_some lend b i hi
    refine ⟨lendB_get β lend hli (hlt i b hli), fun e xs sh hb => ?_⟩
    obtain ⟨x, hx, hx2⟩ := hget i b hli
    rw [hb] at hx
    cases hx
    exact hx2
  have src : ∀ (i : Nat) (x : Blk), hl[i]? = some x → ∃ b y, lend[i]? = some b ∧ h[b]? = some y ∧ x = renBlk (idx lend) y ∧ (lendB β lend)[i]? = β[b]? := by
    intro i x hx
    have hil : i < lend.length := by rw [← hlen]; exact (List.getElem?_eq_some_iff.1 hx).1
    have hli : lend[i]? = some lend[i] := List.getElem?_eq_getElem hil
    obtain ⟨y, hy, hy2⟩ := hget i _ hli
    rw [hx] at hy2
    cases hy2
    exact ⟨_, y, hli, hy, rfl, lendB_get β lend hli (hlt i _ hli)⟩
  have srcB : ∀ (i : Nat) (k : Con), (lendB β lend)[i]? = some k → ∃ b, lend[i]? = some b ∧ β[b]? = some k := by
    intro i k hk
    have hil : i < lend.length := by have := (List.getElem?_eq_some_iff.1 hk).1; simpa [lendB] using this
    have hli : lend[i]? = some lend[i] := List.getElem?_eq_getElem hil
    exact ⟨_, hli, by rw [← lendB_get β lend hli (hlt i _ hli)]; exact hk⟩
  refine ⟨{
    len := by simp [lendB, hlen]
    box := fun i cs hi => ?_
    row := fun i e xs sh hi => ?_
    apart := fun i i' k k' g hi hi' hk hk' => ?_
    lt := fun i k g hi hk => ?_
    stable := r.stable
    free := fun i k g a hi hk ha hag => ?_
    glob := r.glob }, hσ⟩
  · obtain ⟨b, y, h1, h2, h3, h4⟩ := src i _ hi
    obtain ⟨ds, rfl, rfl⟩ := renBlk_box h3.symm
    obtain ⟨g, vs, t, c1, c2, c3, c4⟩ := r.box b ds h2
    obtain ⟨q1, q2⟩ := renL_rel (T := E.T) (w := w) (S := S) hσ ds vs c3 (fun i x y hx hy => (c4 i x y hx hy).1)
    refine ⟨g, vs, t, h4.trans c1, c2, q1, fun j x y hx hy => ⟨q2 j x y hx hy, ?_⟩⟩
    have hjl : j < ds.length := by rw [c3]; exact (List.getElem?_eq_some_iff.1 hy).1
    exact (c4 j _ y (List.getElem?_eq_getElem hjl) hy).2
  · obtain ⟨b, y, h1, h2, h3, h4⟩ := src i _ hi
    have := renBlk_row h3.symm
    subst this
    obtain ⟨k, c1, c2⟩ := r.row b e xs sh h2
    exact ⟨k, h4.trans c1, c2⟩
  · obtain ⟨b, h1, h2⟩ := srcB i k hi
    obtain ⟨b', h1', h2'⟩ := srcB i' k' hi'
    have hbb := r.apart b b' k k' g h2 h2' hk hk'
    subst hbb
    have e1 := idx_of hd h1
    have e2 := idx_of hd h1'
    rw [e1] at e2
    cases e2
    rfl
  · obtain ⟨b, h1, h2⟩ := srcB i k hi
    exact r.lt b k g h2 hk
  · obtain ⟨b, h1, h2⟩ := srcB i k hi
    obtain ⟨e, xs, c1, c2⟩ := r.free b k g a h2 hk ha hag
    exact ⟨e, xs, (hσ b i (idx_of hd h1)).2 e xs true c1, c2⟩

/-- What the callee leaves, under the caller's names. -/
theorem Rel.takeBack (r : Rel E h β S w) {lend : List Nat} (hd : lend.Nodup) {hl : Heap} (hh : lendH lend h lend = some hl) {h' : Heap} {β' : List Con} {S' : Addr → Prop} {w' : World}
    (r' : Rel E h' β' S' w') (x' : Ext hl (lendB β lend) S w h' β' S' w') (hm : lend.length ≤ h'.length) :
    let τ := back lend h.length
    let H := setAll h lend ((h'.take lend.length).map (renBlk τ)) ++ (h'.drop lend.length).map (renBlk τ)
    let B := setAll β lend (β'.take lend.length) ++ β'.drop lend.length
    Ext h β S w H B S' w' ∧ Rel E H B S' w' ∧ ∀ (x : AV) (y : Value), RelV E.T h' β' w' S' x y → RelV E.T H B w' S' (ren τ x) y := by
  intro τ H B
  obtain ⟨hlen, hget⟩ := lendH_get lend hl hh
  obtain ⟨_, hσ⟩ := r.lend hd hh
  have hltb : ∀ b ∈ lend, b < h.length := fun b hb => by
    obtain ⟨i, hi⟩ := List.getElem?_of_mem hb
    obtain ⟨x, hx, _⟩ := hget i b hi
    exact (List.getElem?_eq_some_iff.1 hx).1
  have hlB : ∀ b ∈ lend, b < β.length := fun b hb => by rw [r.len]; exact hltb b hb
  have hHl : (setAll h lend ((h'.take lend.length).map (renBlk τ))).length = h.length := setAll_length _ _ _
  have hBl : (setAll β lend (β'.take lend.length)).length = h.length := by rw [setAll_length, r.len]
  have hβ' : β'.length = h'.length := r'.len
  -- the three kinds of names
  have hH1 : ∀ (b i : Nat), lend[i]? = some b → H[b]? = (h'[i]?).map (renBlk τ) ∧ B[b]? = β'[i]? := by
    intro b i hi
    have hil : i < lend.length := (List.getElem?_eq_some_iff.1 hi).1
    have hb := hltb b (List.mem_of_getElem? hi)
    simp only [H, B]
    rw [List.getElem?_append_left (by rw [hHl]; exact hb), List.getElem?_append_left (by rw [hBl]; exact hb),
      setAll_get lend _ h hd (by simp; omega) hltb b, setAll_get lend _ β hd (by simp; omega) hlB b, idx_of hd hi]
    simp [List.getElem?_take, hil]
  have hH2 : ∀ b, b < h.length → b ∉ lend → H[b]? = h[b]? ∧ B[b]? = β[b]? := by
    intro b hb hn
    have hi : idx lend b = none := by
      cases hi : idx lend b with
      | none => rfl
      | some k => exact absurd (List.mem_of_getElem? (idx_some lend b k hi)) hn
    simp only [H, B]
    rw [List.getElem?_append_left (by rw [hHl]; exact hb), List.getElem?_append_left (by rw [hBl]; exact hb),
      setAll_get lend _ h hd (by simp; omega) hltb b, setAll_get lend _ β hd (by simp; omega) hlB b, hi]
    exact ⟨rfl, rfl⟩
  have hH3 : ∀ j : Nat, H[h.length + j]? = (h'[lend.length + j]?).map (renBlk τ) ∧ B[h.length + j]? = β'[lend.length + j]? := by
    intro j
    simp only [H, B]
    rw [List.getElem?_append_right (by rw [hHl]; omega), List.getElem?_append_right (by rw [hBl]; omega), hHl, hBl, Nat.add_sub_cancel_left, List.getElem?_map, List.getElem?_drop, List.getElem?_drop]
    exact ⟨rfl, rfl⟩
  -- every name is one of them
  have kind : ∀ b : Nat, (∃ i : Nat, τ i = some b ∧ H[b]? = (h'[i]?).map (renBlk τ) ∧ B[b]? = β'[i]? ∧ ((lend[i]? = some b) ∨ (lend.length ≤ i ∧ h.length ≤ b))) ∨ (b < h.length ∧ b ∉ lend ∧ H[b]? = h[b]? ∧ B[b]? = β[b]?) := by
    intro b
    by_cases hb : b < h.length
    · by_cases hm' : b ∈ lend
      · obtain ⟨i, hi⟩ := List.getElem?_of_mem hm'
        obtain ⟨q1, q2⟩ := hH1 b i hi
        exact .inl ⟨i, by simp [τ, back, hi], q1, q2, .inl hi⟩
      · obtain ⟨q1, q2⟩ := hH2 b hb hm'
        exact .inr ⟨hb, hm', q1, q2⟩
    · obtain ⟨q1, q2⟩ := hH3 (b - h.length)
      have e1 : h.length + (b - h.length) = b := by omega
      rw [e1] at q1 q2
      refine .inl ⟨lend.length + (b - h.length), ?_, q1, q2, .inr ⟨by omega, by omega⟩⟩
      have hnone : lend[lend.length + (b - h.length)]? = none := List.getElem?_eq_none (by omega)
      simp only [τ, back, hnone, Option.some.injEq]
      omega
  have tau : ∀ (i b : Nat), τ i = some b → H[b]? = (h'[i]?).map (renBlk τ) ∧ B[b]? = β'[i]? := by
    intro i b hb
    simp only [τ, back] at hb
    split at hb
    · rename_i c hc
      cases hb
      exact hH1 b i hc
    · rename_i hn
      have hi : lend.length ≤ i := by
        rcases Nat.lt_or_ge i lend.length with h1 | h1
        · rw [List.getElem?_eq_getElem h1] at hn; cases hn
        · exact h1
      cases hb
      have := hH3 (i - lend.length)
      rwa [show lend.length + (i - lend.length) = i by omega] at this
  have hrow' : ∀ (i b : Nat) e xs sh, τ i = some b → h'[i]? = some (.row e xs sh) → H[b]? = some (.row e xs sh) := by
    intro i b e xs sh hb hi
    rw [(tau i b hb).1, hi]
    rfl
  have trans : ∀ (x : AV) (y : Value), RelV E.T h' β' w' S' x y → RelV E.T H B w' S' (ren τ x) y :=
    ren_rel (fun i b hb => ⟨(tau i b hb).2, fun e xs sh hi => hrow' i b e xs sh hb hi⟩)
  have hlow : ∀ (i b : Nat), lend[i]? = some b → (lendB β lend)[i]? = β[b]? := fun i b hi => (hσ b i (idx_of hd hi)).1
  have ext : Ext h β S w H B S' w' := {
    box := fun b cs hb => by
      have hbl := (List.getElem?_eq_some_iff.1 hb).1
      by_cases hm' : b ∈ lend
      · obtain ⟨i, hi⟩ := List.getElem?_of_mem hm'
        obtain ⟨x, hx, hx2⟩ := hget i b hi
        rw [hb] at hx
        cases hx
        obtain ⟨cs', hc'⟩ := x'.box i _ hx2
        exact ⟨renL τ cs', by rw [(hH1 b i hi).1, hc']; rfl⟩
      · exact ⟨cs, by rw [(hH2 b hbl hm').1]; exact hb⟩
    con := fun b g hb => by
      have hbl : b < h.length := by rw [← r.len]; exact (List.getElem?_eq_some_iff.1 hb).1
      by_cases hm' : b ∈ lend
      · obtain ⟨i, hi⟩ := List.getElem?_of_mem hm'
        rw [(hH1 b i hi).2]
        exact x'.con i g (by rw [hlow i b hi]; exact hb)
      · rw [(hH2 b hbl hm').2]; exact hb
    row := fun b e xs sh hb => by
      have hbl := (List.getElem?_eq_some_iff.1 hb).1
      by_cases hm' : b ∈ lend
      · obtain ⟨i, hi⟩ := List.getElem?_of_mem hm'
        obtain ⟨xs', sh', a1, a2, a3⟩ := x'.row i e xs sh ((hσ b i (idx_of hd hi)).2 e xs sh hb)
        refine ⟨xs', sh', by rw [(hH1 b i hi).1, a1]; rfl, a2, fun he => ?_⟩
        rw [(hH1 b i hi).2, a3 he, hlow i b hi]
      · exact ⟨xs, sh, by rw [(hH2 b hbl hm').1]; exact hb, Nat.le_refl _, fun _ => (hH2 b hbl hm').2⟩
    S_le := x'.S_le
    S_cell := x'.S_cell
    S_new := fun a ha => by
      rcases x'.S_new a ha with h1 | h1 | ⟨i, k, h1, h2⟩
      · exact .inl h1
      · exact .inr (.inl h1)
      · have hil : i < lend.length := by have := (List.getElem?_eq_some_iff.1 h1).1; simpa [lendB] using this
        have hli : lend[i]? = some lend[i] := List.getElem?_eq_getElem hil
        exact .inr (.inr ⟨_, k, by rw [← hlow i _ hli]; exact h1, h2⟩)
    os := x'.os
    tape := x'.tape
    output := x'.output
    size := x'.size
    keep := fun g hg hne => x'.keep g hg fun i k h1 h2 => by
      have hil : i < lend.length := by have := (List.getElem?_eq_some_iff.1 h1).1; simpa [lendB] using this
      have hli : lend[i]? = some lend[i] := List.getElem?_eq_getElem hil
      exact hne _ k (by rw [← hlow i _ hli]; exact h1) h2
    new := fun b k g hb hk => by
      rcases kind b with ⟨i, t1, t2, t3, t4⟩ | ⟨hb1, hb2, hb3, hb4⟩
      · rw [t3] at hb
        rcases x'.new i k g hb hk with ⟨i', k', c1, c2, rfl⟩ | c
        · have hil : i' < lend.length := by have := (List.getElem?_eq_some_iff.1 c1).1; simpa [lendB] using this
          rcases t4 with t4 | t4
          · exact .inl ⟨b, k', by rw [← hlow i' b t4]; exact c1, c2, rfl⟩
          · omega
        · exact .inr c
      · rw [hb4] at hb
        exact .inl ⟨b, k, hb, hk, rfl⟩ }
  -- an old block of the caller's that was not lent
  have oldg : ∀ (b : Nat) (k : Con) (g : Nat), b ∉ lend → β[b]? = some k → k.blk = some g → ∀ (i : Nat) (k' : Con), (lendB β lend)[i]? = some k' → k'.blk ≠ some g := by
    intro b k g hbn hb hk i k' h1 h2
    have hil : i < lend.length := by have := (List.getElem?_eq_some_iff.1 h1).1; simpa [lendB] using this
    have hli : lend[i]? = some lend[i] := List.getElem?_eq_getElem hil
    rw [hlow i _ hli] at h1
    have := r.apart b _ k k' g hb h1 hk h2
    exact hbn (by rw [this]; exact List.mem_of_getElem? hli)
  refine ⟨ext, {
    len := by simp only [H, B, List.length_append, hHl, hBl, List.length_map, List.length_drop, hβ']
    box := fun b cs hb => ?_
    row := fun b e xs sh hb => ?_
    apart := fun b b' k k' g hb hb' hk hk' => ?_
    lt := fun b k g hb hk => ?_
    stable := r'.stable
    free := fun b k g a hb hk ha hag => ?_
    glob := r'.glob }, trans⟩
  · rcases kind b with ⟨i, t1, t2, t3, t4⟩ | ⟨hb1, hb2, hb3, hb4⟩
    · rw [t2] at hb
      cases hi : h'[i]? with
      | none => simp [hi] at hb
      | some x =>
        simp only [hi, Option.map_some, Option.some.injEq] at hb
        obtain ⟨ds, rfl, rfl⟩ := renBlk_box hb
        obtain ⟨g, vs, t, c1, c2, c3, c4⟩ := r'.box i ds hi
        obtain ⟨q1, q2⟩ := renL_rel (T := E.T) (w := w') (S := S') (fun i b hb => ⟨(tau i b hb).2, fun e xs sh hi => hrow' i b e xs sh hb hi⟩) ds vs c3 (fun i x y hx hy => (c4 i x y hx hy).1)
        refine ⟨g, vs, t, t3.trans c1, c2, q1, fun j x y hx hy => ⟨q2 j x y hx hy, ?_⟩⟩
        have hjl : j < ds.length := by rw [c3]; exact (List.getElem?_eq_some_iff.1 hy).1
        exact (c4 j _ y (List.getElem?_eq_getElem hjl) hy).2
    · rw [hb3] at hb
      obtain ⟨g, vs, t, c1, c2, c3, c4⟩ := r.box b cs hb
      refine ⟨g, vs, t, hb4.trans c1, ?_, c3, fun i x y hx hy => ⟨(c4 i x y hx hy).1.ext ext, (c4 i x y hx hy).2⟩⟩
      rw [x'.keep g (r.lt b _ g c1 rfl) (oldg b _ g hb2 c1 rfl)]
      exact c2
  · rcases kind b with ⟨i, t1, t2, t3, t4⟩ | ⟨hb1, hb2, hb3, hb4⟩
    · rw [t2] at hb
      cases hi : h'[i]? with
      | none => simp [hi] at hb
      | some x =>
        simp only [hi, Option.map_some, Option.some.injEq] at hb
        have := renBlk_row hb
        subst this
        obtain ⟨k, c1, c2⟩ := r'.row i e xs sh hi
        exact ⟨k, t3.trans c1, c2⟩
    · rw [hb3] at hb
      obtain ⟨k, c1, c2⟩ := r.row b e xs sh hb
      exact ⟨k, hb4.trans c1, c2.ext x'.S_le x'.S_cell fun g hg => x'.keep g (r.lt b k g c1 hg) (oldg b k g hb2 c1 hg)⟩
  · rcases kind b with ⟨i, t1, t2, t3, t4⟩ | ⟨hb1, hb2, hb3, hb4⟩ <;> rcases kind b' with ⟨i', t1', t2', t3', t4'⟩ | ⟨hb1', hb2', hb3', hb4'⟩
    · rw [t3] at hb
      rw [t3'] at hb'
      have := r'.apart i i' k k' g hb hb' hk hk'
      subst this
      rw [t1] at t1'
      cases t1'
      rfl
    · rw [t3] at hb
      rw [hb4'] at hb'
      rcases x'.new i k g hb hk with ⟨i2, k2, c1, c2, _⟩ | c
      · exact absurd c2 (oldg b' k' g hb2' hb' hk' i2 k2 c1)
      · have := r.lt b' k' g hb' hk'
        omega
    · rw [hb4] at hb
      rw [t3'] at hb'
      rcases x'.new i' k' g hb' hk' with ⟨i2, k2, c1, c2, _⟩ | c
      · exact absurd c2 (oldg b k g hb2 hb hk i2 k2 c1)
      · have := r.lt b k g hb hk
        omega
    · rw [hb4] at hb
      rw [hb4'] at hb'
      exact r.apart b b' k k' g hb hb' hk hk'
  · rcases kind b with ⟨i, t1, t2, t3, t4⟩ | ⟨hb1, hb2, hb3, hb4⟩
    · rw [t3] at hb
      exact r'.lt i k g hb hk
    · rw [hb4] at hb
      exact Nat.lt_of_lt_of_le (r.lt b k g hb hk) x'.size
  · rcases kind b with ⟨i, t1, t2, t3, t4⟩ | ⟨hb1, hb2, hb3, hb4⟩
    · rw [t3] at hb
      obtain ⟨e, xs, c1, c2⟩ := r'.free i k g a hb hk ha hag
      exact ⟨e, xs, hrow' i b e xs true t1 c1, c2⟩
    · rw [hb4] at hb
      rcases x'.S_new a ha with c | c | ⟨i, k', c1, c2⟩
      · obtain ⟨e, xs, d1, d2⟩ := r.free b k g a hb hk c hag
        exact ⟨e, xs, hb3.trans d1, d2⟩
      · have := r.lt b k g hb hk
        omega
      · exact absurd (hag ▸ c2) (oldg b k g hb2 hb hk i k' c1)


variable {tmps : Array Value} {ts : TS} {K : Act → World → Prop} {Q : Exit → Act → World → Prop} {o : Oper} {os : List Orc} {out : Out}

theorem argV_rel {h0 : Heap} {hl : Heap} {βl : List Con} {σ : Nat → Option Nat} {T : TypeId → TI} (hσ : ∀ (b i : Nat), σ b = some i → βl[i]? = β[b]? ∧ ∀ e xs sh, h[b]? = some (.row e xs sh) → hl[i]? = some (.row e xs sh))
    {x : AV} {y : Value} (hr : RelV T h β w S x y) (hf : RelD w S (frz h0 x) y) : RelV T hl βl w S (argV σ h0 x) y := by
  unfold argV
  split
  · exact ren_rel hσ _ y hr
  · exact ren_rel hσ _ y hr
  · exact .d _ _ hf

theorem op_call (r : Rel E h β S w) (rt : RelTS E.T h β w S ts tmps) (hd : dstOk tmps.size o.dst = true) {args : Array Operand} {tys : Array TypeId} {fo : Operand} (hop : o.op = .call { callee := .value fo, args := args, argTypes := tys })
    (hs : stepOp (mk E) o ts h os = some out) (ho : holds out.o) (g : Goal E h β S w tmps out K) : o.wp E.P ⟨tmps, []⟩ w K Q := by
  have hfo := ev_ok (ds := []) r rt fo
  simp only [stepOp, stepOpG, hop, mk_T, mk_G] at hs
  split at hs
  · rename_i f caps hfe
    rw [hfe] at hfo
    unfold acall at hs
    split at hs
    · rename_i lend res h' os'
      split at hs
      · rename_i hl hlend hchk
        simp only [Option.some.injEq] at hs
        subst hs
        simp only [holds] at ho
        simp only [Bool.and_eq_true] at hchk
        obtain ⟨hm, hdis⟩ := hchk
        have hm := Nat.le_of_ble_eq_true hm
        have hnd := distinct_nodup lend hdis
        obtain ⟨ho1, hC⟩ := frzQ_OL ho
        -- the values
        obtain ⟨cv, hfv, hcl, hcr⟩ : ∃ cv : List Value, Act.eval ⟨tmps, []⟩ fo = .func (.func f) #[] cv.toArray ∧ caps.length = cv.length ∧ ∀ (i : Nat) (x : AV) (y : Value), caps[i]? = some x → cv[i]? = some y → RelV E.T h β w S x y := by
          generalize Act.eval ⟨tmps, []⟩ fo = y at hfo
          cases hfo with
          | d _ _ hd => cases hd
          | fn _ _ vs h1 h2 => exact ⟨vs, rfl, h1, h2⟩
        have hpw : PW (RelV E.T h β w S) (args.toList.map (ev E.G ts) ++ caps) (args.toList.map (Act.eval ⟨tmps, []⟩) ++ cv) := by
          refine PW.append ⟨by simp, fun i x y hx hy => ?_⟩ ⟨hcl, hcr⟩
          simp only [List.getElem?_map, Option.map_eq_some_iff] at hx hy
          obtain ⟨p, h1, rfl⟩ := hx
          obtain ⟨q, h2, rfl⟩ := hy
          rw [h1] at h2
          cases h2
          exact ev_ok r rt _
        obtain ⟨S1, ⟨e1, r1⟩, d1⟩ := frzL_ok E _ h β S w _ r hpw.1 hpw.2 ho1
        obtain ⟨rl, hσ⟩ := r1.lend hnd hlend
        have hcalls : ACallsTo E f _ hl res h' := hC
        have hfl : ∀ (l : List AV) (i : Nat) (x : AV), l[i]? = some x → (frzL h l)[i]? = some (frz h x) := by
          intro l
          induction l with
          | nil => intro i x hx; simp at hx
          | cons a l ih =>
            intro i x hx
            cases i with
            | zero => simp only [List.getElem?_cons_zero, Option.some.injEq] at hx; subst hx; simp [frzL]
            | succ i => simp only [List.getElem?_cons_succ] at hx; simpa [frzL] using ih i x hx
        have hargs : PW (RelV E.T hl (lendB β lend) w S1) ((args.toList.map (ev E.G ts) ++ caps).map (argV (idx lend) h)) (args.toList.map (Act.eval ⟨tmps, []⟩) ++ cv) := by
          refine ⟨by rw [List.length_map]; exact hpw.1, fun i x y hx hy => ?_⟩
          simp only [List.getElem?_map, Option.map_eq_some_iff] at hx
          obtain ⟨p, h1, rfl⟩ := hx
          exact argV_rel hσ ((hpw.2 i p y h1 hy).ext e1) (d1 i _ y (hfl _ i p h1) hy)
        have hc := hcalls (lendB β lend) S1 w _ rl hargs
        unfold Oper.wp
        have harr : (args.map (Act.eval ⟨tmps, []⟩)) ++ cv.toArray = (args.toList.map (Act.eval ⟨tmps, []⟩) ++ cv).toArray := by
          apply Array.ext'
          simp
        have fin : ∀ (e : Ending) (w' : World), Post E hl (lendB β lend) S1 w (fun r' h'' => r' = res ∧ h'' = h') e w' → ∃ y, e = .returned y ∧ K ((⟨tmps, []⟩ : Act).put o.dst y) w' := by
          rintro e w' ⟨r', h2, β', S', y, rfl, ⟨hr', hh'⟩, rr, ex, rv⟩
          subst hr'
          subst hh'
          obtain ⟨x1, x2, x3⟩ := r1.takeBack hnd hlend rr ex hm
          have hlen1 : (share h (frzML (args.toList.map (ev E.G ts) ++ caps))).length = h.length := by rw [← r1.len, r.len]
          rw [hlen1] at x1 x2 x3
          refine ⟨y, rfl, ?_⟩
          rw [put_defers]
          exact g.k _ S' w' _ (put_size _ _ _) x2 (e1.trans x1) ((rt.ext (e1.trans x1)).put hd (x3 _ _ rv))
        rcases hc with ⟨⟨fn, hf1, hf2, hf3⟩, hc⟩ | ⟨y0, w0, hrun0, hp⟩
        · have hrun : (execOp (Act.eval ⟨tmps, []⟩) o).run E.P w = .ok (.enter f (args.toList.map (Act.eval ⟨tmps, []⟩) ++ cv).toArray) w := by
            simp only [execOp, hop, resolve, hfv, Deferred.ofValue, Sem.run_bind, Sem.run_pure, Result.andThen_ok, invoke, callFunc, run_program, Array.empty_append, harr, hf1, hf2, hf3, Bool.false_eq_true, if_false]
          rw [hrun, Oper.upon_enter]
          refine hc.mono ?_
          intro e w' hp
          obtain ⟨y, rfl, hk⟩ := fin e w' hp
          exact hk
        · have hrun : (execOp (Act.eval ⟨tmps, []⟩) o).run E.P w = .ok (.value y0) w0 := by
            simp only [execOp, hop, resolve, hfv, Deferred.ofValue, Sem.run_bind, Sem.run_pure, Result.andThen_ok, invoke, Array.empty_append, harr, hrun0]
          rw [hrun, Oper.upon_value]
          obtain ⟨y, hy, hk⟩ := fin _ w0 hp
          cases hy
          exact hk
      · cases hs
    · cases hs
  · cases hs


/-- A call whose outcome is known in part. -/
theorem op_call_gen (r : Rel E h β S w) (rt : RelTS E.T h β w S ts tmps) (hd : dstOk tmps.size o.dst = true) {args : Array Operand} {tys : Array TypeId} {fo : Operand} (hop : o.op = .call { callee := .value fo, args := args, argTypes := tys })
    {f : FuncId} {caps : List AV} (hfe : ev E.G ts fo = .fn f caps) {lend : List Nat} {hl : Heap} (hlend : lendH lend (share h (frzML (args.toList.map (ev E.G ts) ++ caps))) lend = some hl) (hdis : distinct lend = true)
    (ho1 : frzOL h (args.toList.map (ev E.G ts) ++ caps)) {R' : AV → Heap → Prop} (hC : ACalls E f ((args.toList.map (ev E.G ts) ++ caps).map (argV (idx lend) h)) hl R')
    (g : ∀ (res : AV) (h' : Heap), R' res h' → lend.length ≤ h'.length ∧ Goal E h β S w tmps ⟨none, AM.put ts o.dst (ren (back lend h.length) res), setAll (share h (frzML (args.toList.map (ev E.G ts) ++ caps))) lend ((h'.take lend.length).map (renBlk (back lend h.length))) ++ (h'.drop lend.length).map (renBlk (back lend h.length)), []⟩ K) : o.wp E.P ⟨tmps, []⟩ w K Q := by
  have hfo := ev_ok (ds := []) r rt fo
  rw [hfe] at hfo
  have hnd := distinct_nodup lend hdis
  -- the values
  obtain ⟨cv, hfv, hcl, hcr⟩ : ∃ cv : List Value, Act.eval ⟨tmps, []⟩ fo = .func (.func f) #[] cv.toArray ∧ caps.length = cv.length ∧ ∀ (i : Nat) (x : AV) (y : Value), caps[i]? = some x → cv[i]? = some y → RelV E.T h β w S x y := by
    generalize Act.eval ⟨tmps, []⟩ fo = y at hfo
    cases hfo with
    | d _ _ hd => cases hd
    | fn _ _ vs h1 h2 => exact ⟨vs, rfl, h1, h2⟩
  have hpw : PW (RelV E.T h β w S) (args.toList.map (ev E.G ts) ++ caps) (args.toList.map (Act.eval ⟨tmps, []⟩) ++ cv) := by
    refine PW.append ⟨by simp, fun i x y hx hy => ?_⟩ ⟨hcl, hcr⟩
    simp only [List.getElem?_map, Option.map_eq_some_iff] at hx hy
    obtain ⟨p, h1, rfl⟩ := hx
    obtain ⟨q, h2, rfl⟩ := hy
    rw [h1] at h2
    cases h2
    exact ev_ok r rt _
  obtain ⟨S1, ⟨e1, r1⟩, d1⟩ := frzL_ok E _ h β S w _ r hpw.1 hpw.2 ho1
  obtain ⟨rl, hσ⟩ := r1.lend hnd hlend
  have hcalls := hC
  have hfl : ∀ (l : List AV) (i : Nat) (x : AV), l[i]? = some x → (frzL h l)[i]? = some (frz h x) := by
    intro l
    induction l with
    | nil => intro i x hx; simp at hx
    | cons a l ih =>
      intro i x hx
      cases i with
      | zero => simp only [List.getElem?_cons_zero, Option.some.injEq] at hx; subst hx; simp [frzL]
      | succ i => simp only [List.getElem?_cons_succ] at hx; simpa [frzL] using ih i x hx
  have hargs : PW (RelV E.T hl (lendB β lend) w S1) ((args.toList.map (ev E.G ts) ++ caps).map (argV (idx lend) h)) (args.toList.map (Act.eval ⟨tmps, []⟩) ++ cv) := by
    refine ⟨by rw [List.length_map]; exact hpw.1, fun i x y hx hy => ?_⟩
    simp only [List.getElem?_map, Option.map_eq_some_iff] at hx
    obtain ⟨p, h1, rfl⟩ := hx
    exact argV_rel hσ ((hpw.2 i p y h1 hy).ext e1) (d1 i _ y (hfl _ i p h1) hy)
  have hc := hcalls (lendB β lend) S1 w _ rl hargs
  unfold Oper.wp
  have harr : (args.map (Act.eval ⟨tmps, []⟩)) ++ cv.toArray = (args.toList.map (Act.eval ⟨tmps, []⟩) ++ cv).toArray := by
    apply Array.ext'
    simp
  have fin : ∀ (e : Ending) (w' : World), Post E hl (lendB β lend) S1 w R' e w' → ∃ y, e = .returned y ∧ K ((⟨tmps, []⟩ : Act).put o.dst y) w' := by
    rintro e w' ⟨r', h2, β', S', y, rfl, hR, rr, ex, rv⟩
    obtain ⟨hm, hgoal⟩ := g r' h2 hR
    obtain ⟨x1, x2, x3⟩ := r1.takeBack hnd hlend rr ex hm
    have hlen1 : (share h (frzML (args.toList.map (ev E.G ts) ++ caps))).length = h.length := by rw [← r1.len, r.len]
    rw [hlen1] at x1 x2 x3
    refine ⟨y, rfl, ?_⟩
    rw [put_defers]
    exact hgoal.k _ S' w' _ (put_size _ _ _) x2 (e1.trans x1) ((rt.ext (e1.trans x1)).put hd (x3 _ _ rv))
  rcases hc with ⟨⟨fn, hf1, hf2, hf3⟩, hc⟩ | ⟨y0, w0, hrun0, hp⟩
  · have hrun : (execOp (Act.eval ⟨tmps, []⟩) o).run E.P w = .ok (.enter f (args.toList.map (Act.eval ⟨tmps, []⟩) ++ cv).toArray) w := by
      simp only [execOp, hop, resolve, hfv, Deferred.ofValue, Sem.run_bind, Sem.run_pure, Result.andThen_ok, invoke, callFunc, run_program, Array.empty_append, harr, hf1, hf2, hf3, Bool.false_eq_true, if_false]
    rw [hrun, Oper.upon_enter]
    refine hc.mono ?_
    intro e w' hp
    obtain ⟨y, rfl, hk⟩ := fin e w' hp
    exact hk
  · have hrun : (execOp (Act.eval ⟨tmps, []⟩) o).run E.P w = .ok (.value y0) w0 := by
      simp only [execOp, hop, resolve, hfv, Deferred.ofValue, Sem.run_bind, Sem.run_pure, Result.andThen_ok, invoke, Array.empty_append, harr, hrun0]
    rw [hrun, Oper.upon_value]
    obtain ⟨y, hy, hk⟩ := fin _ w0 hp
    cases hy
    exact hk

end
end Go.AM

namespace Go.AM
open Go.RowKit
set_option linter.unusedSimpArgs false
set_option linter.unusedVariables false

section
variable {E : Env0} {h : Heap} {β : List Con} {S : Addr → Prop} {w : World} {tmps : Array Value} {ts : TS} {K : Act → World → Prop} {Q : Exit → Act → World → Prop} {o : Oper} {os : List Orc} {out : Out}

theorem stepOp_ok (ht : TabOK E) (r : Rel E h β S w) (rt : RelTS E.T h β w S ts tmps) (hd : dstOk tmps.size o.dst = true)
    (hs : stepOp (mk E) o ts h os = some out) (ho : holds out.o) (g : Goal E h β S w tmps out K) : o.wp E.P ⟨tmps, []⟩ w K Q := by
  cases hop : o.op with
  | move x => exact op_move ht r rt hd (.inl hop) hs ho g
  | assign x => exact op_move ht r rt hd (.inr hop) hs ho g
  | pick c a b => exact op_pick ht r rt hd hop hs ho g
  | alloc t => exact op_alloc ht r rt hd hop hs ho g
  | box t x => exact op_box ht r rt hd hop hs ho g
  | build t ps => exact op_build ht r rt hd hop hs ho g
  | buildSlice t n ps => exact op_buildSlice ht r rt hd hop hs ho g
  | load t x => exact op_load ht r rt hd hop hs ho g
  | store t x y => exact op_store ht r rt hd hop hs ho g
  | nilCheck x => exact op_nilCheck ht r rt hd hop hs ho g
  | binOp op t x y ty => exact op_binOp ht r rt hd hop hs ho g
  | unOp op t x => exact op_unop ht r rt hd hop hs ho g
  | convert s t x => exact op_convert ht r rt hd hop hs ho g
  | makeFunc fn first caps =>
    cases fn with
    | func f => exact op_makeFunc ht r rt hd hop hs ho g
    | _ => simp [stepOp, stepOpG, hop] at hs
  | slice t x lo hi mx => exact op_slice ht r rt hd hop hs ho g
  | fieldAddr t x f => exact op_fieldAddr ht r rt hd hop hs ho g
  | field t x f => exact op_field ht r rt hd hop hs ho g
  | indexAddr t x i => exact op_indexAddr ht r rt hd hop hs ho g
  | index t x i => exact op_index ht r rt hd hop hs ho g
  | extract x i => exact op_extract ht r rt hd hop hs ho g
  | call c =>
    obtain ⟨callee, args, tys⟩ := c
    cases callee with
    | value f => exact op_call r rt hd hop hs ho g
    | invoke a b => simp [stepOp, stepOpG, hop] at hs
    | builtin b =>
      cases b with
      | len => exact op_len ht r rt hd hop hs ho g
      | append => exact op_append ht r rt hd hop hs ho g
      | copy => exact op_copy ht r rt hd hop hs ho g
      | _ => simp [stepOp, stepOpG, hop] at hs
  | _ => simp [stepOp, stepOpG, hop] at hs

/-- An operation of a region, with its guard. -/
def wpG (P : Program) (ops : Array Oper) (o : Oper) (a : Act) (w : World) (K : Act → World → Prop) (Q : Exit → Act → World → Prop) : Prop :=
  if Region.wanted o (yielded ops a.tmps) then o.wp P a w K Q else K (a.put o.dst undef) w

theorem yielded_of {all : List Oper} {j d : Nat} {b : Bool} (hg : guardTmp all j = some d) (hv : tmps.getD d undef = .bool b) : yielded all.toArray tmps j = some b := by
  unfold guardTmp at hg
  unfold yielded
  have hd : tmps[d]? = some (.bool b) := by
    rw [Array.getD_eq_getD_getElem?] at hv
    cases hx : tmps[d]? with
    | none => rw [hx] at hv; simp [undef] at hv
    | some x => rw [hx] at hv; simp at hv; rw [hv]
  simp [hg, hd]

theorem RelTS.lit {T : TypeId → TI} (rt : RelTS T h β w S ts tmps) {d : Nat} {b : Bool} (hv : tmps.getD d undef = .bool b) : RelTS T h β w S ((d, .bl b) :: ts) tmps := by
  intro t
  simp only [look]
  split
  · rename_i hx
    have := Nat.eq_of_beq_eq_true hx
    subst this
    rw [hv]
    exact .d _ _ (.bl b)
  · exact rt t

theorem skipped_rel {T : TypeId → TI} : RelV T h β w S skipped undef := .d _ _ (.tup [] [] rfl (by simp))

theorem yielded_none {all : List Oper} {j d : Nat} (hg : guardTmp all j = some d) (hv : tmps.getD d undef = undef) : yielded all.toArray tmps j = none := by
  unfold guardTmp at hg
  unfold yielded
  cases hx : tmps[d]? with
  | none => simp [hg, hx]
  | some x =>
    rw [Array.getD_eq_getD_getElem?, hx] at hv
    simp only [Option.getD_some] at hv
    subst hv
    simp [hg, hx, undef]

theorem stepG_ok (ht : TabOK E) (r : Rel E h β S w) (rt : RelTS E.T h β w S ts tmps) (hd : dstOk tmps.size o.dst = true) {all : List Oper}
    (hs : stepG (mk E) all o ts h os = some out) (ho : holds out.o) (g : Goal E h β S w tmps out K) : wpG E.P all.toArray o ⟨tmps, []⟩ w K Q := by
  unfold stepG at hs
  unfold wpG
  have skip : ∀ (ts' : TS) (q : Option Prop) (os' : List Orc), RelTS E.T h β w S ts' tmps → out = ⟨q, AM.put ts' o.dst skipped, h, os'⟩ → K (Act.put ⟨tmps, []⟩ o.dst undef) w := by
    intro ts' q os' rt' he
    subst he
    rw [put_defers]
    exact g.k β S w _ (put_size _ _ _) r (Ext.refl _ _ _ _) (rt'.put hd skipped_rel)
  split at hs
  · rename_i hg
    rw [if_pos (by simp [Region.wanted, hg])]
    exact stepOp_ok ht r rt hd hs ho g
  · rename_i j want hg
    split at hs
    · cases hs
    · rename_i d hgt
      have hrd := rt d
      split at hs
      · rename_i b hlk
        rw [hlk] at hrd
        have hv := hrd.bl_inv
        have hy := yielded_of hgt hv
        split at hs
        · rename_i hbw
          rw [if_pos (by simp only [Region.wanted, hg, hy]; simpa using hbw)]
          exact stepOp_ok ht r rt hd hs ho g
        · rename_i hbw
          rw [if_neg (by simp only [Region.wanted, hg, hy]; simpa using hbw)]
          simp only [Option.some.injEq] at hs
          exact skip ts _ _ rt hs.symm
      · rename_i hlk
        rw [hlk] at hrd
        have hv : tmps.getD d undef = undef := by
          obtain ⟨vs, he, hl, _⟩ := hrd.tup_inv
          have : vs = [] := List.eq_nil_of_length_eq_zero (by simpa using hl.symm)
          rw [he, this]
          rfl
        have hy := yielded_none hgt hv
        rw [if_neg (by simp only [Region.wanted, hg, hy]; simp)]
        simp only [Option.some.injEq] at hs
        exact skip ts _ _ rt hs.symm
      · rename_i t hlk
        rw [hlk] at hrd
        have hv := hrd.v_inv
        split at hs
        · rename_i b os'
          split at hs
          · rename_i hbw
            cases hso : stepOp (mk E) o ((d, .bl b) :: ts) h os' with
            | none => simp [hso] at hs
            | some r' =>
              simp only [hso, Option.map_some, Option.some.injEq] at hs
              subst hs
              simp only [holds] at ho
              obtain ⟨rfl, ho⟩ := ho
              have hy := yielded_of hgt hv
              rw [if_pos (by simp only [Region.wanted, hg, hy]; simpa using hbw)]
              exact stepOp_ok ht r (rt.lit hv) hd hso ho ⟨g.k⟩
          · rename_i hbw
            simp only [Option.some.injEq] at hs
            have hq := hs
            subst hq
            simp only [holds] at ho
            subst ho
            have hy := yielded_of hgt hv
            rw [if_neg (by simp only [Region.wanted, hg, hy]; simpa using hbw)]
            exact skip _ _ _ (rt.lit hv) rfl
        · cases hs
      · cases hs

end
end Go.AM

namespace Go.AM
open Go.RowKit
set_option linter.unusedSimpArgs false
set_option linter.unusedVariables false

theorem ev_eq (G : Nat → Option (List AV)) (ts : TS) : ev G ts = evF G (look ts) := by
  funext x
  cases x <;> rfl

theorem stepOpG_map {α : Type} (E : Env) (o : Oper) (e : Operand → AV) (pt : AV → α) (h : Heap) (os : List Orc) :
    stepOpG E o e pt h os = (stepOpG E o e id h os).map fun r => ⟨r.o, pt r.ts, r.h, r.os⟩ := by
  obtain ⟨dst, op, ty, pos, after, guard⟩ := o
  cases op <;> (try simp only [stepOpG, id]) <;> (try rfl)
  case unOp u t x => cases u <;> simp only [stepOpG] <;> (repeat' split) <;> rfl
  case makeFunc fn first caps => cases fn <;> simp only [stepOpG] <;> (repeat' split) <;> rfl
  case call c =>
    obtain ⟨callee, args, tys⟩ := c
    cases callee with
    | value f =>
      simp only [stepOpG, acall]
      (repeat' split) <;> first | rfl | simp_all
    | invoke a b => rfl
    | builtin b =>
      cases b <;> simp only [stepOpG, append] <;> (repeat' split) <;> first | rfl | simp_all
  all_goals (repeat' split) <;> first | rfl | simp_all


theorem map_congr_e {l : List Operand} {e e' : Operand → AV} (h : ∀ x ∈ l, e x = e' x) : l.map e = l.map e' := List.map_congr_left h

theorem stepOpG_congr {α : Type} (E : Env) (o : Oper) (e e' : Operand → AV) (pt : AV → α) (h : Heap) (os : List Orc) (he : ∀ x ∈ o.op.operands, e x = e' x) :
    stepOpG E o e pt h os = stepOpG E o e' pt h os := by
  obtain ⟨dst, op, ty, pos, after, guard⟩ := o
  simp only at he
  cases op
  case move x => simp only [stepOpG]; rw [he x (by simp [Op.operands])]
  case assign x => simp only [stepOpG]; rw [he x (by simp [Op.operands])]
  case pick c a b => simp only [stepOpG]; rw [he c (by simp [Op.operands]), he a (by simp [Op.operands]), he b (by simp [Op.operands])]
  case box t x => simp only [stepOpG]; rw [he x (by simp [Op.operands])]
  case build t ps =>
    have : (ps.toList.map fun x => (x.1, e x.2)) = (ps.toList.map fun x => (x.1, e' x.2)) := List.map_congr_left fun x hx => by rw [he x.2 (by simp [Op.operands]; exact ⟨x.1, by simpa using hx⟩)]
    simp only [stepOpG]
    rw [this]
  case buildSlice t n ps =>
    have : (ps.toList.map fun x => (x.1, e x.2)) = (ps.toList.map fun x => (x.1, e' x.2)) := List.map_congr_left fun x hx => by rw [he x.2 (by simp [Op.operands]; exact ⟨x.1, by simpa using hx⟩)]
    simp only [stepOpG]
    rw [this]
  case load t x => simp only [stepOpG]; rw [he x (by simp [Op.operands])]
  case store t x y => simp only [stepOpG]; rw [he x (by simp [Op.operands]), he y (by simp [Op.operands])]
  case nilCheck x => simp only [stepOpG]; rw [he x (by simp [Op.operands])]
  case binOp op t x y ty => simp only [stepOpG]; rw [he x (by simp [Op.operands]), he y (by simp [Op.operands])]
  case unOp u t x => cases u <;> simp only [stepOpG] <;> rw [he x (by simp [Op.operands])]
  case convert s t x => simp only [stepOpG]; rw [he x (by simp [Op.operands])]
  case fieldAddr t x f => simp only [stepOpG]; rw [he x (by simp [Op.operands])]
  case field t x f => simp only [stepOpG]; rw [he x (by simp [Op.operands])]
  case indexAddr t x i => simp only [stepOpG]; rw [he x (by simp [Op.operands]), he i (by simp [Op.operands])]
  case index t x i => simp only [stepOpG]; rw [he x (by simp [Op.operands]), he i (by simp [Op.operands])]
  case extract x i => simp only [stepOpG]; rw [he x (by simp [Op.operands])]
  case slice t x lo hi mx =>
    have h1 := he x (by simp [Op.operands])
    have h2 : ∀ y, lo = some y → e y = e' y := fun y hy => he y (by simp [Op.operands, hy])
    have h3 : ∀ y, hi = some y → e y = e' y := fun y hy => he y (by simp [Op.operands, hy])
    have h4 : ∀ y, mx = some y → e y = e' y := fun y hy => he y (by simp [Op.operands, hy])
    cases lo <;> cases hi <;> cases mx <;> simp only [stepOpG, Option.map_some, Option.map_none, h1] <;> (try rw [h2 _ rfl]) <;> (try rw [h3 _ rfl]) <;> cases (E.T t).kind <;> cases e' x <;> first | rfl | (dsimp only; done) | (dsimp only; rw [h4 _ rfl])
  case makeFunc fn first caps =>
    cases fn <;> simp only [stepOpG]
    have : caps.toList.map e = caps.toList.map e' := List.map_congr_left fun x hx => he x (by simp only [Op.operands, Array.mem_append]; exact .inr (by simpa using hx))
    rw [this]
  case call c =>
    obtain ⟨callee, args, tys⟩ := c
    have harg : ∀ x ∈ args.toList, e x = e' x := fun x hx => he x (by simp only [Op.operands, Call.operands, Array.mem_append]; exact .inr (by simpa using hx))
    cases callee with
    | value f =>
      have hf := he f (by simp [Op.operands, Call.operands])
      simp only [stepOpG]
      rw [hf, List.map_congr_left harg]
    | invoke a b => rfl
    | builtin b =>
      cases b <;> simp only [stepOpG]
      case len =>
        split
        · rename_i x t hx ht
          rw [harg x (by rw [hx]; simp)]
        · rfl
      case append =>
        split
        · rename_i x y t t' hx ht
          rw [harg x (by rw [hx]; simp), harg y (by rw [hx]; simp)]
        · rfl
      case copy =>
        split
        · rename_i x y t t' hx ht
          rw [harg x (by rw [hx]; simp), harg y (by rw [hx]; simp)]
        · rfl
  all_goals rfl


mutual
theorem frz_none {h h' : Heap} : ∀ (x : AV), frzM x = [] → frz h' x = frz h x
  | .agg cs, hx => by simp only [frzM] at hx; simp only [frz]; rw [frzL_none cs hx]
  | .tup cs, hx => by simp only [frzM] at hx; simp only [frz]; rw [frzL_none cs hx]
  | .own b n, hx => by simp [frzM] at hx
  | .un, _ | .v _, _ | .bl _, _ | .sl _, _ | .dp _, _ | .nl, _ | .p _ _, _ | .ep _ _ _ _, _ | .os _ _ _, _ | .fn _ _, _ => by simp [frz]
theorem frzL_none {h h' : Heap} : ∀ (l : List AV), frzML l = [] → frzL h' l = frzL h l
  | [], _ => by simp [frzL]
  | x :: r, hx => by
    simp only [frzML, List.append_eq_nil_iff] at hx
    simp only [frzL]
    rw [frz_none x hx.1, frzL_none r hx.2]
end

mutual
theorem frzO_none {h h' : Heap} : ∀ (x : AV), frzM x = [] → frzO h' x = frzO h x
  | .agg cs, hx => by simp only [frzM] at hx; simp only [frzO]; rw [frzOL_none cs hx]
  | .tup cs, hx => by simp only [frzM] at hx; simp only [frzO]; rw [frzOL_none cs hx]
  | .own b n, hx => by simp [frzM] at hx
  | .un, _ | .v _, _ | .bl _, _ | .sl _, _ | .dp _, _ | .nl, _ | .p _ _, _ | .ep _ _ _ _, _ | .os _ _ _, _ | .fn _ _, _ => by simp [frzO]
theorem frzOL_none {h h' : Heap} : ∀ (l : List AV), frzML l = [] → frzOL h' l = frzOL h l
  | [], _ => by simp [frzOL]
  | x :: r, hx => by
    simp only [frzML, List.append_eq_nil_iff] at hx
    simp only [frzOL]
    rw [frzO_none x hx.1, frzOL_none r hx.2]
end

theorem early_spec {E : Env} {o : Oper} {e : Operand → AV} {B : List Nat} (hB : earlyB E o e = some B) {h h' : Heap} {os : List Orc} {out : OutG AV} (hs : stepOpG E o e id h os = some out)
    (hb : ∀ b ∈ B, boxOf h' b = boxOf h b) : out.h = h ∧ stepOpG E o e id h' os = some ⟨out.o, out.ts, h', out.os⟩ := by
  obtain ⟨dst, op, ty, pos, after, guard⟩ := o
  -- the operations that look at no heap
  have nat : (∀ h, stepOpG E ⟨dst, op, ty, pos, after, guard⟩ e id h os = (stepOpG E ⟨dst, op, ty, pos, after, guard⟩ e id [] os).map fun r => ⟨r.o, r.ts, h, r.os⟩) →
      out.h = h ∧ stepOpG E ⟨dst, op, ty, pos, after, guard⟩ e id h' os = some ⟨out.o, out.ts, h', out.os⟩ := by
    intro hn
    rw [hn h] at hs
    rw [hn h']
    cases hq : stepOpG E ⟨dst, op, ty, pos, after, guard⟩ e id [] os with
    | none => rw [hq] at hs; simp at hs
    | some r =>
      rw [hq] at hs
      simp only [Option.map_some, Option.some.injEq] at hs
      subst hs
      exact ⟨rfl, rfl⟩
  cases op <;> (try (simp only [earlyB] at hB; cases hB; done))
  case load t x =>
    simp only [earlyB] at hB
    cases he : e x with
    | p b off =>
      simp only [he, Option.some.injEq] at hB
      subst hB
      have hbb := hb b (by simp)
      simp only [stepOpG, he] at hs ⊢
      cases hx : h[b]? with
      | none => simp [hx] at hs
      | some B1 =>
        cases B1 with
        | row e1 xs sh => simp [hx] at hs
        | box cs =>
          have h2 : h'[b]? = some (.box cs) := by
            simp only [boxOf, hx] at hbb
            cases hy : h'[b]? with
            | none => simp [hy] at hbb
            | some B2 => cases B2 with
              | box ds => simp only [hy, Option.some.injEq] at hbb; rw [hbb]
              | row _ _ _ => simp [hy] at hbb
          simp only [hx] at hs
          simp only [h2]
          split at hs
          · simp only [Option.some.injEq] at hs
            subst hs
            exact ⟨rfl, rfl⟩
          · cases hs
    | dp cs =>
      refine nat fun h => ?_
      clear nat hs
      simp only [stepOpG, he]
      (repeat' split) <;> first | rfl | simp_all
    | _ => simp [he] at hB
  case indexAddr t x i =>
    simp only [earlyB] at hB
    cases he : e x with
    | own b n => simp [he] at hB
    | _ =>
      refine nat fun h => ?_
      clear nat hs
      simp only [stepOpG, he]
      (repeat' split) <;> first | rfl | simp_all
  case slice t x lo hi mx =>
    simp only [earlyB] at hB
    cases he : e x with
    | own b n => simp [he] at hB
    | _ =>
      refine nat fun h => ?_
      clear nat hs
      simp only [stepOpG, he]
      (repeat' split) <;> first | rfl | simp_all
  case buildSlice t n parts =>
    simp only [earlyB] at hB
    simp only [stepOpG] at hs ⊢
    split at hB
    · rename_i el hk
      split at hB
      · rename_i cs hf
        split at hB
        · rename_i hm
          simp only [hk] at hs ⊢
          rw [hf] at hs ⊢
          split at hs
          · rename_i cs' hf' hle
            cases hf'
            simp only [Option.some.injEq] at hs
            subst hs
            rw [hm]
            simp only [share, List.foldl_nil]
            refine ⟨trivial, ?_⟩
            simp only [frzB, hm]
            rw [frzL_none cs hm (h := h) (h' := h')]
          · cases hs
        · cases hB
      · cases hB
    · cases hB
  case call c =>
    obtain ⟨callee, args, tys⟩ := c
    cases callee with
    | value f => simp [earlyB] at hB
    | invoke a b => simp [earlyB] at hB
    | builtin b =>
      cases b <;> (try (simp [earlyB] at hB; done))
      simp only [earlyB] at hB
      split at hB
      · rename_i x hx
        refine nat fun h => ?_
        clear nat hs
        simp only [stepOpG, hx]
        cases he : e x with
        | own b n => simp [he] at hB
        | _ =>
          clear hB
          (repeat' split) <;> first | rfl | simp_all
      · cases hB
  case unOp u t x =>
    refine nat fun h => ?_
    clear nat hs
    cases u <;> simp only [stepOpG] <;> (repeat' split) <;> first | rfl | simp_all
  case makeFunc fn first caps =>
    refine nat fun h => ?_
    clear nat hs
    cases fn <;> simp only [stepOpG] <;> (repeat' split) <;> first | rfl | simp_all
  all_goals
    refine nat fun h => ?_
    clear nat hs
    simp only [stepOpG]
    (repeat' split) <;> first | rfl | simp_all


theorem boxOf_some {h : Heap} {b : Nat} {cs : List AV} (hb : boxOf h b = some cs) : h[b]? = some (.box cs) := by
  unfold boxOf at hb
  split at hb
  · rename_i ds hx; cases hb; exact hx
  · cases hb
theorem boxOf_mk {h : Heap} {b : Nat} {cs : List AV} (hb : h[b]? = some (.box cs)) : boxOf h b = some cs := by simp [boxOf, hb]

theorem boxOf_append {h l : Heap} {b : Nat} {cs : List AV} (hb : boxOf h b = some cs) : boxOf (h ++ l) b = some cs := by
  have h1 := boxOf_some hb
  exact boxOf_mk (by rw [List.getElem?_append_left (List.getElem?_eq_some_iff.1 h1).1]; exact h1)

theorem boxOf_set {h : Heap} {b c : Nat} {cs : List AV} {e : TypeId} {xs : List (List AV)} {sh : Bool} {x : Blk} (hb : boxOf h b = some cs) (hc : h[c]? = some (.row e xs sh)) : boxOf (h.set c x) b = some cs := by
  have h1 := boxOf_some hb
  have hne : b ≠ c := by rintro rfl; rw [h1] at hc; cases hc
  exact boxOf_mk (by rw [set_other hne]; exact h1)

theorem boxOf_share1 {h : Heap} {b c : Nat} {cs : List AV} (hb : boxOf h b = some cs) : boxOf (share1 h c) b = some cs := by
  unfold share1
  split
  · rename_i e xs sh hc; exact boxOf_set hb hc
  · exact hb

theorem boxOf_share : ∀ (l : List Nat) {h : Heap} {b : Nat} {cs : List AV}, boxOf h b = some cs → boxOf (share h l) b = some cs
  | [], _, _, _, hb => hb
  | c :: l, h, b, cs, hb => by
    have := boxOf_share l (boxOf_share1 (c := c) hb)
    simpa [share, List.foldl_cons] using this

theorem boxOf_setAll : ∀ (l : List Nat) (ys : Heap) {h : Heap} {b : Nat} {cs : List AV}, b ∉ l → boxOf h b = some cs → boxOf (setAll h l ys) b = some cs
  | [], _, _, _, _, _, hb => by simpa [setAll] using hb
  | c :: l, [], _, _, _, _, hb => by simpa [setAll] using hb
  | c :: l, y :: ys, h, b, cs, hn, hb => by
    simp only [List.mem_cons, not_or] at hn
    simp only [setAll]
    refine boxOf_setAll l ys hn.2 (boxOf_mk ?_)
    rw [set_other hn.1]
    exact boxOf_some hb

theorem keeps_spec {E : Env} {o : Oper} {e : Operand → AV} {B : List Nat} {h : Heap} {os : List Orc} {out : OutG AV} (hk : keepsB o os B = true) (hs : stepOpG E o e id h os = some out) {b : Nat} {cs : List AV} (hbB : b ∈ B) (hb : boxOf h b = some cs) :
    boxOf out.h b = some cs := by
  obtain ⟨dst, op, ty, pos, after, guard⟩ := o
  cases B with
  | nil => simp at hbB
  | cons b0 B0 =>
    simp only [keepsB] at hk
    cases op <;> (try (simp only [stepOpG] at hs; cases hs; done)) <;> (try (cases hk; done))
    case unOp u t x =>
      cases u <;> simp only [stepOpG] at hs <;> (repeat' split at hs) <;> first | (cases hs; done) | (simp only [Option.some.injEq] at hs; subst hs; exact hb)
    case makeFunc fn first caps =>
      cases fn <;> simp only [stepOpG] at hs <;> (repeat' split at hs) <;> first | (cases hs; done) | (simp only [Option.some.injEq] at hs; subst hs; exact hb)
    case buildSlice t n parts =>
      simp only [stepOpG] at hs
      (repeat' split at hs) <;> first | (cases hs; done) | (simp only [Option.some.injEq] at hs; subst hs; exact boxOf_share _ hb)
    case alloc t =>
      simp only [stepOpG] at hs
      (repeat' split at hs) <;> first | (cases hs; done) | (simp only [Option.some.injEq] at hs; subst hs; exact boxOf_append hb)
    case box t x =>
      simp only [stepOpG] at hs
      (repeat' split at hs) <;> first | (cases hs; done) | (simp only [Option.some.injEq] at hs; subst hs; exact boxOf_append hb)
    case call c =>
      obtain ⟨callee, args, tys⟩ := c
      cases callee with
      | invoke a b => simp [stepOpG] at hs
      | value f =>
        simp only [stepOpG] at hs
        split at hs
        · unfold acall at hs
          split at hs
          · rename_i lend r h' os'
            split at hs
            · simp only [Option.some.injEq] at hs
              subst hs
              have hn : b ∉ lend := by
                have := List.all_eq_true.1 hk b hbB
                simpa [lendOf] using this
              exact boxOf_append (boxOf_setAll _ _ hn (boxOf_share _ hb))
            · cases hs
          · cases hs
        · cases hs
      | builtin bb =>
        cases bb <;> (try (simp [stepOpG] at hs; done))
        · simp only [stepOpG] at hs
          split at hs
          · split at hs
            · unfold append at hs
              split at hs
              · split at hs
                · cases hs
                · split at hs
                  · simp only [Option.some.injEq] at hs; subst hs; exact boxOf_append hb
                  · split at hs
                    · rename_i hrow
                      split at hs
                      · simp only [Option.some.injEq] at hs; subst hs; exact boxOf_set hb hrow
                      · cases hs
                    · cases hs
                  · cases hs
              · cases hs
            · cases hs
          · cases hs
        · simp only [stepOpG] at hs
          split at hs
          · split at hs
            · split at hs
              · rename_i hrow
                split at hs
                · simp only [Option.some.injEq] at hs; subst hs; exact boxOf_set hb hrow
                · cases hs
              · cases hs
            · cases hs
          · cases hs
        · simp only [stepOpG] at hs
          (repeat' split at hs) <;> first | (cases hs; done) | (simp only [Option.some.injEq] at hs; subst hs; exact hb)
    all_goals
      simp only [stepOpG] at hs
      (repeat' split at hs) <;> first | (cases hs; done) | (simp only [Option.some.injEq] at hs; subst hs; exact hb)

end Go.AM

namespace Go.AM
open Go.RowKit
set_option linter.unusedSimpArgs false
set_option linter.unusedVariables false

theorem holds_andO {p x : Option Prop} (h : holds (andO p x)) : holds p ∧ holds x := by
  cases p with
  | none => exact ⟨trivial, h⟩
  | some p => exact h

def putF (L : Nat → AV) (d : Option Tmp) (v : AV) : Nat → AV := match d with
  | some d => fun t => if t = d then v else L t
  | none => L

theorem mem_looksAt_op {all : List Oper} {o : Oper} {t : Nat} (h : Operand.tmp t ∈ o.op.operands) : t ∈ o.looksAt all.toArray := by
  unfold Oper.looksAt
  rw [List.mem_append]
  left
  rw [List.mem_filterMap]
  exact ⟨.tmp t, by simpa using h, rfl⟩

theorem mem_looksAt_guard {all : List Oper} {o : Oper} {j d : Nat} {want : Bool} (hg : o.guard = some (j, want)) (hd : guardTmp all j = some d) : d ∈ o.looksAt all.toArray := by
  unfold Oper.looksAt
  rw [List.mem_append]
  right
  unfold guardTmp at hd
  simp [hg, hd]

theorem evF_congr {G : Nat → Option (List AV)} {L L' : Nat → AV} {x : Operand} (h : ∀ t, x = .tmp t → L t = L' t) : evF G L x = evF G L' x := by
  cases x with
  | tmp t => exact h t rfl
  | _ => rfl

theorem gst_congr {all : List Oper} {o : Oper} {L L' : Nat → AV} {os : List Orc} (h : ∀ t ∈ o.looksAt all.toArray, L t = L' t) : gst all o L os = gst all o L' os := by
  unfold gst
  split
  · rfl
  · rename_i j want hg
    split
    · rfl
    · rename_i d hd
      rw [h d (mem_looksAt_guard hg hd)]

theorem evs_congr {E : Env} {all : List Oper} {o : Oper} {L L' : Nat → AV} (h : ∀ t ∈ o.looksAt all.toArray, L t = L' t) : ∀ x ∈ o.op.operands, evF E.G L x = evF E.G L' x :=
  fun x hx => evF_congr fun t ht => h t (mem_looksAt_op (by rw [← ht]; exact hx))

theorem stepD_congr {E : Env} {all : List Oper} {o : Oper} {L L' : Nat → AV} {h : Heap} {os : List Orc} (hl : ∀ t ∈ o.looksAt all.toArray, L t = L' t) : stepD E all o L h os = stepD E all o L' h os := by
  unfold stepD
  rw [gst_congr hl]
  split
  · rw [stepOpG_congr E o _ _ id h _ (evs_congr hl)]
  · rfl
  · rfl

theorem lendOf_gst {all : List Oper} {o : Oper} {L : Nat → AV} {os os' : List Orc} {b : Bool} {q : Option Prop} (h : gst all o L os = some (b, q, os')) : lendOf os' = lendOf os := by
  unfold gst at h
  split at h
  · cases h; rfl
  · split at h
    · cases h
    · split at h
      · cases h; rfl
      · cases h; rfl
      · split at h
        · cases h; rfl
        · cases h
      · cases h

theorem keepsB_os {o : Oper} {os os' : List Orc} {B : List Nat} (h : lendOf os' = lendOf os) (hk : keepsB o os B = true) : keepsB o os' B = true := by
  unfold keepsB at hk ⊢
  split
  · rfl
  · rename_i b l
    simp only at hk
    split
    · rename_i hx; simp [hx] at hk
    · rename_i hx
      rw [h]
      simpa [hx] using hk
    · rfl

theorem stepD_keeps {E : Env} {all : List Oper} {o : Oper} {L : Nat → AV} {h : Heap} {os : List Orc} {out : OutG AV} {B : List Nat} (hk : keepsB o os B = true) (hs : stepD E all o L h os = some out) {b : Nat} {cs : List AV} (hbB : b ∈ B) (hb : boxOf h b = some cs) :
    boxOf out.h b = some cs := by
  unfold stepD at hs
  split at hs
  · rename_i q os' hg
    cases hx : stepOpG E o (evF E.G L) id h os' with
    | none => simp [hx] at hs
    | some r =>
      simp only [hx, Option.map_some, Option.some.injEq] at hs
      subst hs
      exact keeps_spec (keepsB_os (lendOf_gst hg) hk) hx hbB hb
  · simp only [Option.some.injEq] at hs
    subst hs
    exact hb
  · cases hs

theorem stepD_early {E : Env} {all : List Oper} {o : Oper} {L : Nat → AV} {h h' : Heap} {os : List Orc} {out : OutG AV} {B : List Nat} (hB : earlyD E all o L os = some B) (hs : stepD E all o L h os = some out) (hb : ∀ b ∈ B, boxOf h' b = boxOf h b) :
    out.h = h ∧ stepD E all o L h' os = some ⟨out.o, out.ts, h', out.os⟩ := by
  unfold stepD at hs ⊢
  unfold earlyD at hB
  split at hs
  · rename_i q os' hg
    simp only [hg] at hB ⊢
    cases hx : stepOpG E o (evF E.G L) id h os' with
    | none => simp [hx] at hs
    | some r =>
      simp only [hx, Option.map_some, Option.some.injEq] at hs
      obtain ⟨h1, h2⟩ := early_spec hB hx hb
      subst hs
      exact ⟨h1, by rw [h2]; rfl⟩
  · rename_i q os' hg
    simp only [hg] at hB ⊢
    simp only [Option.some.injEq] at hs
    subst hs
    exact ⟨rfl, rfl⟩
  · cases hs

theorem earlyB_congr {E : Env} {o : Oper} {e e' : Operand → AV} (he : ∀ x ∈ o.op.operands, e x = e' x) : earlyB E o e = earlyB E o e' := by
  obtain ⟨dst, op, ty, pos, after, guard⟩ := o
  simp only at he
  cases op <;> (try rfl)
  case load t x => simp only [earlyB]; rw [he x (by simp [Op.operands])]
  case indexAddr t x i => simp only [earlyB]; rw [he x (by simp [Op.operands])]
  case slice t x lo hi mx => simp only [earlyB]; rw [he x (by simp [Op.operands])]
  case buildSlice t n ps =>
    have : (ps.toList.map fun x => (x.1, e x.2)) = (ps.toList.map fun x => (x.1, e' x.2)) := List.map_congr_left fun x hx => by rw [he x.2 (by simp [Op.operands]; exact ⟨x.1, by simpa using hx⟩)]
    simp only [earlyB]
    rw [this]
  case call c =>
    obtain ⟨callee, args, tys⟩ := c
    have harg : ∀ x ∈ args.toList, e x = e' x := fun x hx => he x (by simp only [Op.operands, Call.operands, Array.mem_append]; exact .inr (by simpa using hx))
    cases callee with
    | value f => rfl
    | invoke a b => rfl
    | builtin b =>
      cases b <;> (try rfl)
      simp only [earlyB]
      split
      · rename_i x hx
        rw [harg x (by rw [hx]; simp)]
      · rfl

theorem earlyD_congr {E : Env} {all : List Oper} {o : Oper} {L L' : Nat → AV} {os : List Orc} (hl : ∀ t ∈ o.looksAt all.toArray, L t = L' t) : earlyD E all o L os = earlyD E all o L' os := by
  unfold earlyD
  rw [gst_congr hl]
  split
  · exact earlyB_congr (evs_congr hl)
  · rfl
  · rfl

/-- Every order is good. -/
def DG (E : Env) (all : List Oper) (os : Nat → List Orc) (n : Nat) (K : (Nat → AV) → Heap → Prop) : Nat → Array Bool → (Nat → AV) → Heap → Prop
  | 0, listed, L, h => Region.ready .any all.toArray listed = [] ∧ K L h
  | f + 1, listed, L, h => (Region.ready .any all.toArray listed = [] → K L h) ∧ ∀ i ∈ Region.ready .any all.toArray listed, ∃ o out, all[i]? = some o ∧ dstOk n o.dst = true ∧
      stepD E all o L h (os i) = some out ∧ holds out.o ∧ DG E all os n K f (listed.setIfInBounds i true) (putF L o.dst out.ts) out.h

/-- What is done is closed: so is what it hangs on. -/
def Closed (ops : Array Oper) (listed : Array Bool) : Prop := ∀ (j : Nat) (o : Oper), ops[j]? = some o → listed.getD j false = true → ∀ e ∈ o.after, Region.binds .any e = true → listed.getD e.on false = true

theorem dep_listed {ops : Array Oper} {listed : Array Bool} (hc : Closed ops listed) {i : Nat} : ∀ (f j : Nat), dep ops i f j = true → listed.getD j false = true → listed.getD i false = true
  | 0, j, hd, _ => by cases hd
  | f + 1, j, hd, hj => by
    unfold dep at hd
    split at hd
    · rename_i o ho
      obtain ⟨e, he, hx⟩ := List.any_eq_true.1 hd
      simp only [Bool.and_eq_true, Bool.or_eq_true] at hx
      have hl := hc j o ho hj e (by simpa using he) hx.1
      rcases hx.2 with h1 | h1
      · rw [← Nat.eq_of_beq_eq_true h1]; exact hl
      · exact dep_listed hc f e.on h1 hl
    · cases hd

theorem dep_ready {ops : Array Oper} {listed : Array Bool} (hc : Closed ops listed) {i j f : Nat} (hr : j ∈ Region.ready .any ops listed) (hd : dep ops i f j = true) : listed.getD i false = true := by
  obtain ⟨_, o, ho, hall⟩ := mem_ready.1 hr
  cases f with
  | zero => cases hd
  | succ f =>
    unfold dep at hd
    simp only [ho] at hd
    obtain ⟨e, he, hx⟩ := List.any_eq_true.1 hd
    simp only [Bool.and_eq_true, Bool.or_eq_true] at hx
    have hl := hall e (by simpa using he) hx.1
    rcases hx.2 with h1 | h1
    · rw [← Nat.eq_of_beq_eq_true h1]; exact hl
    · exact dep_listed hc f e.on h1 hl

theorem closed_add {ops : Array Oper} {listed : Array Bool} (hc : Closed ops listed) {i : Nat} (hr : i ∈ Region.ready .any ops listed) : Closed ops (listed.setIfInBounds i true) := by
  intro j o ho hj e he hb
  obtain ⟨_, o', ho', hall⟩ := mem_ready.1 hr
  by_cases hij : i = j
  · subst hij
    rw [ho] at ho'
    cases ho'
    exact getD_set_true (hall e he hb)
  · rw [getD_set_ne false hij] at hj
    exact getD_set_true (hc j o ho hj e he hb)

theorem putF_comm {L : Nat → AV} {x y : Option Tmp} {u v : AV} (h : ∀ d, x = some d → y ≠ some d) : putF (putF L x u) y v = putF (putF L y v) x u := by
  cases x with
  | none => rfl
  | some d =>
    cases y with
    | none => rfl
    | some d' =>
      have hne : d' ≠ d := fun e => h d rfl (by rw [e])
      funext t
      simp only [putF]
      by_cases h1 : t = d <;> by_cases h2 : t = d'
      · subst h1; exact absurd h2 (Ne.symm hne)
      · simp [h1, h2, Ne.symm hne]
      · simp [h1, h2, hne]
      · simp [h1, h2]

theorem putF_other {L : Nat → AV} {x : Option Tmp} {u : AV} {t : Nat} (h : ∀ d, x = some d → t ≠ d) : putF L x u t = L t := by
  cases x with
  | none => rfl
  | some d => simp [putF, h d rfl]

/-- An operation that may be carried out first, is. -/
theorem DG_take {E : Env} {all : List Oper} {os : Nat → List Orc} {n : Nat} {K : (Nat → AV) → Heap → Prop} {i : Nat} {o : Oper} (hi : all[i]? = some o) (hdst : dstOk n o.dst = true) (F : Nat) :
    ∀ (f : Nat) (listed : Array Bool) (L : Nat → AV) (h : Heap) (out : OutG AV) (B : List Nat), Closed all.toArray listed → i ∈ Region.ready .any all.toArray listed → earlyD E all o L (os i) = some B → stepD E all o L h (os i) = some out → holds out.o →
      (∀ b ∈ B, ∃ cs, boxOf h b = some cs) →
      (∀ j oj, all[j]? = some oj → j ≠ i → listed.getD j true = false → dep all.toArray i F j = true ∨ (o.apart all.toArray oj = true ∧ keepsB oj (os j) B = true)) →
      DG E all os n K f (listed.setIfInBounds i true) (putF L o.dst out.ts) h → DG E all os n K (f + 1) listed L h := by
  intro f
  induction f with
  | zero =>
    intro listed L h out B hcl hr hB hs ho hbox hfree H
    refine ⟨fun h0 => (by rw [h0] at hr; cases hr), fun j hj => ?_⟩
    by_cases hji : j = i
    · subst hji
      obtain ⟨hh, _⟩ := stepD_early hB hs (h' := h) (fun _ _ => rfl)
      exact ⟨o, out, hi, hdst, hs, ho, by rw [hh]; exact H⟩
    · have := ready_mono hj hji
      rw [H.1] at this
      cases this
  | succ f ih =>
    intro listed L h out B hcl hr hB hs ho hbox hfree H
    refine ⟨fun h0 => (by rw [h0] at hr; cases hr), fun j hj => ?_⟩
    by_cases hji : j = i
    · subst hji
      obtain ⟨hh, _⟩ := stepD_early hB hs (h' := h) (fun _ _ => rfl)
      exact ⟨o, out, hi, hdst, hs, ho, by rw [hh]; exact H⟩
    · obtain ⟨oj, outj, hoj, hdj, hsj, hqj, Hj⟩ := H.2 j (ready_mono hj hji)
      have hjun := (mem_ready.1 hj).1
      have hpair : o.apart all.toArray oj = true ∧ keepsB oj (os j) B = true := by
        rcases hfree j oj hoj hji hjun with h1 | h1
        · have h2 := dep_ready hcl hj h1
          have h3 := (mem_ready.1 hr).1
          rcases Nat.lt_or_ge i listed.size with h' | h'
          · simp [h'] at h2 h3; rw [h3] at h2; cases h2
          · simp [Array.getElem?_eq_none h'] at h2
        · exact h1
      obtain ⟨hap, hkp⟩ := hpair
      obtain ⟨a1, a2, a3⟩ := Oper.apart_spec hap
      have hLj : ∀ t ∈ oj.looksAt all.toArray, putF L o.dst out.ts t = L t := fun t ht => putF_other fun d hd e => a1 d hd (by rw [← e]; exact ht)
      have hsj' : stepD E all oj L h (os j) = some outj := by rw [← stepD_congr hLj]; exact hsj
      have hkeep : ∀ b ∈ B, boxOf outj.h b = boxOf h b := fun b hb => by
        obtain ⟨cs, hcs⟩ := hbox b hb
        rw [hcs, stepD_keeps hkp hsj' hb hcs]
      have hLi : ∀ t ∈ o.looksAt all.toArray, putF L oj.dst outj.ts t = L t := fun t ht => putF_other fun d hd e => a3 d hd (by rw [← e]; exact ht)
      have hearly : earlyD E all o (putF L oj.dst outj.ts) (os i) = some B := by
        rw [earlyD_congr hLi]
        exact hB
      obtain ⟨hh, hs2⟩ := stepD_early hB hs hkeep
      have hs3 : stepD E all o (putF L oj.dst outj.ts) outj.h (os i) = some ⟨out.o, out.ts, outj.h, out.os⟩ := by
        rw [stepD_congr hLi]
        exact hs2
      refine ⟨oj, outj, hoj, hdj, hsj', hqj, ih (listed.setIfInBounds j true) _ outj.h ⟨out.o, out.ts, outj.h, out.os⟩ B (closed_add hcl hj) (ready_mono hr (Ne.symm hji)) hearly hs3 ho (fun b hb => ?_) (fun k ok hk hki hun => ?_) ?_⟩
      · obtain ⟨cs, hcs⟩ := hbox b hb
        exact ⟨cs, by rw [hkeep b hb]; exact hcs⟩
      · refine hfree k ok hk hki ?_
        by_cases hjk : j = k
        · subst hjk; exact hjun
        · rw [getD_set_ne true hjk] at hun; exact hun
      · rw [Array.setIfInBounds_comm _ _ hji]
        rw [putF_comm (fun d hd he => a2 d hd he)] at Hj
        exact Hj

/-- An operation that must come next. -/
theorem DG_all {E : Env} {all : List Oper} {os : Nat → List Orc} {n : Nat} {K : (Nat → AV) → Heap → Prop} {f : Nat} {listed : Array Bool} {L : Nat → AV} {h : Heap} (hne : Region.ready .any all.toArray listed ≠ [])
    (H : ∀ i ∈ Region.ready .any all.toArray listed, ∃ o out, all[i]? = some o ∧ dstOk n o.dst = true ∧ stepD E all o L h (os i) = some out ∧ holds out.o ∧ DG E all os n K f (listed.setIfInBounds i true) (putF L o.dst out.ts) out.h) :
    DG E all os n K (f + 1) listed L h := ⟨fun h0 => absurd h0 hne, H⟩

theorem DG_done {E : Env} {all : List Oper} {os : Nat → List Orc} {n : Nat} {K : (Nat → AV) → Heap → Prop} {listed : Array Bool} {L : Nat → AV} {h : Heap} (hr : Region.ready .any all.toArray listed = []) (hK : K L h) : ∀ f, DG E all os n K f listed L h
  | 0 => ⟨hr, hK⟩
  | _ + 1 => ⟨fun _ => hK, by rw [hr]; simp⟩

/-- All values of the slots. -/
def RelL (T : TypeId → TI) (h : Heap) (β : List Con) (w : World) (S : Addr → Prop) (L : Nat → AV) (tmps : Array Value) : Prop := ∀ t, RelV T h β w S (L t) (tmps.getD t undef)

def tsOf (m : Nat) (L : Nat → AV) : Nat → TS
  | 0 => []
  | k + 1 => (k, L k) :: tsOf m L k

theorem tsOf_look (m : Nat) (L : Nat → AV) : ∀ (k t : Nat), look (tsOf m L k) t = if t < k then L t else .un
  | 0, t => by simp [tsOf, look]
  | k + 1, t => by
    simp only [tsOf, look]
    split
    · rename_i hb
      have := Nat.eq_of_beq_eq_true hb
      subst this
      simp
    · rename_i hb
      have hne : k ≠ t := by rintro rfl; simp [Nat.beq_refl] at hb
      rw [tsOf_look m L k t]
      by_cases h1 : t < k
      · rw [if_pos h1, if_pos (by omega)]
      · rw [if_neg h1, if_neg (by omega)]

theorem le_sum {l : List Nat} {t : Nat} (h : t ∈ l) : t ≤ l.sum := by
  induction l with
  | nil => cases h
  | cons a l ih =>
    rw [List.sum_cons]
    rcases List.mem_cons.1 h with h1 | h1
    · omega
    · have := ih h1; omega

theorem stepD_ok {E : Env0} (ht : TabOK E) {h : Heap} {β : List Con} {S : Addr → Prop} {w : World} {tmps : Array Value} {L : Nat → AV} {K : Act → World → Prop} {Q : Exit → Act → World → Prop} {o : Oper} {os : List Orc} {out : OutG AV} {all : List Oper}
    (r : Rel E h β S w) (rl : RelL E.T h β w S L tmps) (hd : dstOk tmps.size o.dst = true) (hs : stepD (mk E) all o L h os = some out) (ho : holds out.o)
    (g : ∀ (β' : List Con) (S' : Addr → Prop) (w' : World) (tmps' : Array Value), tmps'.size = tmps.size → Rel E out.h β' S' w' → Ext h β S w out.h β' S' w' → RelL E.T out.h β' w' S' (putF L o.dst out.ts) tmps' → K ⟨tmps', []⟩ w') :
    wpG E.P all.toArray o ⟨tmps, []⟩ w K Q := by
  unfold stepD at hs
  -- the slots that are looked at, as a list
  let m := tmps.size + (o.looksAt all.toArray).sum + 1
  have hlk : ∀ t, look (tsOf m L m) t = if t < m then L t else .un := tsOf_look m L m
  have rt : RelTS E.T h β w S (tsOf m L m) tmps := fun t => by
    rw [hlk t]
    split
    · exact rl t
    · exact .d _ _ (.un _)
  have back : ∀ (β' : List Con) (S' : Addr → Prop) (w' : World) (tmps' : Array Value) (h' : Heap) (v : AV), tmps'.size = tmps.size → Ext h β S w h' β' S' w' → RelTS E.T h' β' w' S' (AM.put (tsOf m L m) o.dst v) tmps' → RelL E.T h' β' w' S' (putF L o.dst v) tmps' := by
    intro β' S' w' tmps' h' v hsz hx hts t
    have h1 := hts t
    by_cases hdt : o.dst = some t
    · rw [hdt] at h1 ⊢
      simpa [AM.put, look, putF, Nat.beq_refl] using h1
    · have h2 : putF L o.dst v t = L t := putF_other fun d hd e => hdt (by rw [hd, e])
      have h3 : look (AM.put (tsOf m L m) o.dst v) t = look (tsOf m L m) t := by
        cases hdd : o.dst with
        | none => rfl
        | some d =>
          have hne : d ≠ t := fun e => hdt (by rw [hdd, e])
          simp only [AM.put, look]
          split
          · rename_i hb; exact absurd (Nat.eq_of_beq_eq_true hb) hne
          · rfl
      rw [h3, hlk t] at h1
      rw [h2]
      split at h1
      · exact h1
      · rename_i hge
        have hu : tmps'.getD t undef = tmps.getD t undef := by
          rw [Array.getD_eq_getD_getElem?, Array.getD_eq_getD_getElem?, Array.getElem?_eq_none (by omega), Array.getElem?_eq_none (by omega)]
        rw [hu]
        exact (rl t).ext hx
  have hcon : ∀ x ∈ o.op.operands, evF (mk E).G L x = ev (mk E).G (tsOf m L m) x := by
    rw [ev_eq]
    refine evs_congr (E := mk E) (all := all) fun t ht => ?_
    rw [hlk t, if_pos]
    have := le_sum ht
    omega
  have skip : ∀ (q : Option Prop) (os' : List Orc), out = ⟨q, skipped, h, os'⟩ → K (Act.put ⟨tmps, []⟩ o.dst undef) w := by
    intro q os' he
    subst he
    rw [put_defers]
    exact g β S w _ (put_size _ _ _) r (Ext.refl _ _ _ _) (back β S w _ h skipped (put_size _ _ _) (Ext.refl _ _ _ _) (rt.put hd skipped_rel))
  have exec : ∀ (os' : List Orc) (q : Option Prop), (stepOpG (mk E) o (evF (mk E).G L) id h os').map (fun r => (⟨andO q r.o, r.ts, r.h, r.os⟩ : OutG AV)) = some out → o.wp E.P ⟨tmps, []⟩ w K Q := by
    intro os' q hx
    rw [stepOpG_congr (mk E) o _ _ id h os' hcon] at hx
    cases hy : stepOpG (mk E) o (ev (mk E).G (tsOf m L m)) id h os' with
    | none => simp [hy] at hx
    | some r1 =>
      simp only [hy, Option.map_some, Option.some.injEq] at hx
      subst hx
      have hst : stepOp (mk E) o (tsOf m L m) h os' = some ⟨r1.o, AM.put (tsOf m L m) o.dst r1.ts, r1.h, r1.os⟩ := by
        unfold stepOp
        rw [stepOpG_map, hy]
        rfl
      exact stepOp_ok ht r rt hd hst (holds_andO ho).2 ⟨fun β' S' w' tmps' hsz r' e' rt' => g β' S' w' tmps' hsz r' e' (back β' S' w' tmps' _ _ hsz e' rt')⟩
  unfold wpG
  -- the guard
  have hgst : ∀ (b : Bool) (q : Option Prop) (os' : List Orc), gst all o L os = some (b, q, os') → holds q → Region.wanted o (yielded all.toArray tmps) = b := by
    intro b q os' hg hq
    unfold gst at hg
    unfold Region.wanted
    split at hg
    · rename_i hgu
      cases hg
      rw [hgu]
    · rename_i j want hgu
      rw [hgu]
      simp only
      split at hg
      · cases hg
      · rename_i d hgt
        have hrd := rl d
        split at hg
        · rename_i bb hl
          cases hg
          rw [hl] at hrd
          rw [yielded_of hgt hrd.bl_inv]
          cases bb <;> cases want <;> rfl
        · rename_i hl
          cases hg
          rw [hl] at hrd
          obtain ⟨vs, he, hll, _⟩ := hrd.tup_inv
          have : vs = [] := List.eq_nil_of_length_eq_zero (by simpa using hll.symm)
          rw [yielded_none hgt (by rw [he, this]; rfl)]
          rfl
        · rename_i t hl
          rw [hl] at hrd
          split at hg
          · cases hg
            simp only [holds] at hq
            subst hq
            rw [yielded_of hgt hrd.v_inv]
            cases t <;> cases want <;> rfl
          · cases hg
        · cases hg
  split at hs
  · rename_i q os' hg
    have hq : holds q := by
      cases hy : stepOpG (mk E) o (evF (mk E).G L) id h os' with
      | none => simp [hy] at hs
      | some r1 =>
        have hs' := hs
        simp only [hy, Option.map_some, Option.some.injEq] at hs'
        subst hs'
        exact (holds_andO ho).1
    rw [if_pos (hgst true q os' hg hq)]
    exact exec os' q hs
  · rename_i q os' hg
    simp only [Option.some.injEq] at hs
    have hq : holds q := by subst hs; exact ho
    rw [if_neg (by rw [hgst false q os' hg hq]; simp)]
    exact skip q os' hs.symm
  · cases hs

theorem DG_sound {E : Env0} (ht : TabOK E) {all : List Oper} {os : Nat → List Orc} {n : Nat} {K : (Nat → AV) → Heap → Prop} {Q : Exit → Act → World → Prop} {hb : Heap} {βb : List Con} {Sb : Addr → Prop} {wb : World}
    (hK : ∀ (L : Nat → AV) (h : Heap) (β : List Con) (S : Addr → Prop) (w : World) (tmps : Array Value), K L h → tmps.size = n → Ext hb βb Sb wb h β S w → Rel E h β S w → RelL E.T h β w S L tmps → Q .normal ⟨tmps, []⟩ w) :
    ∀ (f : Nat) (listed : Array Bool) (L : Nat → AV) (h : Heap) (β : List Con) (S : Addr → Prop) (w : World) (tmps : Array Value), DG (mk E) all os n K f listed L h → tmps.size = n → Ext hb βb Sb wb h β S w → Rel E h β S w → RelL E.T h β w S L tmps →
      wpAny E.P .any all.toArray Q f listed ⟨tmps, []⟩ w := by
  intro f
  induction f with
  | zero =>
    intro listed L h β S w tmps H hn x r rl
    exact ⟨H.1, hK L h β S w tmps H.2 hn x r rl⟩
  | succ f ih =>
    intro listed L h β S w tmps H hn x r rl
    refine ⟨fun h0 => hK L h β S w tmps (H.1 h0) hn x r rl, fun i hi => ?_⟩
    obtain ⟨o, out, ho, hd, hs, hq, H'⟩ := H.2 i hi
    have := stepD_ok (Q := Q) (K := wpAny E.P .any all.toArray Q f (listed.setIfInBounds i true)) ht r rl (by rw [hn]; exact hd) hs hq (fun β' S' w' tmps' hsz r' e' rl' => ih _ _ _ β' S' w' tmps' H' (by rw [hsz]; exact hn) (x.trans e') r' rl')
    unfold wpOp
    have hoa : all.toArray[i]? = some o := by simpa using ho
    simp only [hoa]
    unfold wpG at this
    split
    · rename_i hw; rw [if_pos hw] at this; exact .inl this
    · rename_i hw; rw [if_neg hw] at this; exact this


theorem memN_iff (b : Nat) : ∀ l : List Nat, memN b l = true ↔ b ∈ l
  | [] => by simp [memN]
  | x :: r => by
    simp only [memN, List.mem_cons]
    split
    · rename_i hx; simp [Nat.eq_of_beq_eq_true hx]
    · rename_i hx
      have hne : b ≠ x := by rintro rfl; simp [Nat.beq_refl] at hx
      rw [memN_iff b r]
      simp [hne]

/-- What is done, as a list and as the model keeps it. -/
def Lst (n : Nat) (done : List Nat) (listed : Array Bool) : Prop := listed.size = n ∧ ∀ j, j < n → listed[j]? = some (memN j done)

theorem Lst.getT {n : Nat} {done : List Nat} {listed : Array Bool} (hl : Lst n done listed) {j : Nat} (hj : j < n) (d : Bool) : listed.getD j d = memN j done := by
  rw [Array.getD_eq_getD_getElem?, hl.2 j hj]; rfl

theorem Lst.getF {n : Nat} {done : List Nat} {listed : Array Bool} (hl : Lst n done listed) {j : Nat} (hj : ¬ j < n) (d : Bool) : listed.getD j d = d := by
  rw [Array.getD_eq_getD_getElem?, Array.getElem?_eq_none (by rw [hl.1]; omega)]; rfl

theorem Lst.add {n : Nat} {done : List Nat} {listed : Array Bool} (hl : Lst n done listed) {i : Nat} (hi : i < n) : Lst n (i :: done) (listed.setIfInBounds i true) := by
  refine ⟨by simp [hl.1], fun j hj => ?_⟩
  by_cases e : i = j
  · subst e
    rw [Array.getElem?_setIfInBounds_self_of_lt (by rw [hl.1]; exact hi)]
    simp [memN, Nat.beq_refl]
  · rw [Array.getElem?_setIfInBounds_ne e, hl.2 j hj]
    have hb : Nat.beq i j = false := by
      cases hh : Nat.beq i j with
      | false => rfl
      | true => exact absurd (Nat.eq_of_beq_eq_true hh) e
    simp [memN, hb]

theorem ready_iff {all : List Oper} {done : List Nat} {listed : Array Bool} (hl : Lst all.length done listed) (hd : ∀ x ∈ done, x < all.length) (i : Nat) : i ∈ Region.ready .any all.toArray listed ↔ i ∈ readyL all done := by
  rw [mem_ready]
  unfold readyL
  rw [List.mem_filter, List.mem_range]
  constructor
  · rintro ⟨h1, o, ho, h2⟩
    have ho' : all[i]? = some o := by simpa using ho
    have hi := (List.getElem?_eq_some_iff.1 ho').1
    refine ⟨hi, ?_⟩
    rw [hl.getT hi] at h1
    rw [ho']
    simp only [h1, Bool.not_false, Bool.true_and, List.all_eq_true, Bool.or_eq_true, Bool.not_eq_true']
    intro e he
    by_cases hb : Region.binds .any e = true
    · right
      have := h2 e (by simpa using he) hb
      by_cases hen : e.on < all.length
      · rwa [hl.getT hen] at this
      · rw [hl.getF hen] at this; cases this
    · left; simpa using hb
  · rintro ⟨hi, h1⟩
    have ho : all[i]? = some all[i] := List.getElem?_eq_getElem hi
    rw [ho] at h1
    simp only [Bool.and_eq_true, Bool.not_eq_true', List.all_eq_true, Bool.or_eq_true] at h1
    refine ⟨by rw [hl.getT hi]; exact h1.1, all[i], by simp [hi], fun e he hb => ?_⟩
    rcases h1.2 e (by simpa using he) with h2 | h2
    · rw [hb] at h2; cases h2
    · have hen := hd e.on ((memN_iff _ _).1 h2)
      rw [hl.getT hen]; exact h2

theorem look_put (ts : TS) (d : Option Tmp) (v : AV) : look (put ts d v) = putF (look ts) d v := by
  funext t
  cases d with
  | none => rfl
  | some d =>
    simp only [put, look, putF]
    split
    · rename_i hb; rw [if_pos (Nat.eq_of_beq_eq_true hb).symm]
    · rename_i hb
      have hne : t ≠ d := by rintro rfl; simp [Nat.beq_refl] at hb
      rw [if_neg hne]

theorem consO_ok {q : Option Prop} {l : List Prop × TS × Heap} (h : allP (consO q l).1) : holds q ∧ allP l.1 := by
  cases q with
  | none => exact ⟨trivial, h⟩
  | some p =>
    simp only [consO] at h
    cases hl : l.1 with
    | nil => rw [hl] at h; exact ⟨h, trivial⟩
    | cons a r => rw [hl] at h; exact h

theorem goD_some {E : Env} {all : List Oper} {osl : List (Nat × List Orc)} {n : Nat} {lv : List Nat → TS → Heap → Option (List (List Prop × TS × Heap))} {done : List Nat} {ts : TS} {h : Heap} {i : Nat} {Ls : List (List Prop × TS × Heap)}
    (hg : goD E all osl n lv done ts h i = some Ls) : ∃ o out L2, all[i]? = some o ∧ dstOk n o.dst = true ∧ stepD E all o (look ts) h (osAt osl i) = some out ∧ lv (i :: done) (put ts o.dst out.ts) out.h = some L2 ∧ Ls = L2.map (consO out.o) := by
  unfold goD at hg
  cases ho : all[i]? with
  | none => simp [ho] at hg
  | some o =>
    simp only [ho] at hg
    cases hd : dstOk n o.dst with
    | false => simp [hd] at hg
    | true =>
      cases hs : stepD E all o (look ts) h (osAt osl i) with
      | none => simp [hd, hs] at hg
      | some out =>
        simp only [hd, hs] at hg
        cases hl : lv (i :: done) (put ts o.dst out.ts) out.h with
        | none => simp [hl] at hg
        | some L2 =>
          simp only [hl, Option.map_some, Option.some.injEq] at hg
          exact ⟨o, out, L2, rfl, hd, hs, hl, hg.symm⟩

theorem allD_mem {go : Nat → Option (List (List Prop × TS × Heap))} : ∀ (l : List Nat) (Lt : List (List Prop × TS × Heap)), allD go l = some Lt → ∀ i ∈ l, ∃ La, go i = some La ∧ ∀ x ∈ La, x ∈ Lt
  | [], _, _, i, hi => by cases hi
  | c :: l, Lt, he, i, hi => by
    unfold allD at he
    cases hc : go c with
    | none => simp [hc] at he
    | some a =>
      cases hb : allD go l with
      | none => simp [hc, hb] at he
      | some b =>
        simp only [hc, hb, Option.some.injEq] at he
        subst he
        rcases List.mem_cons.1 hi with h1 | h1
        · subst h1; exact ⟨a, hc, fun x hx => List.mem_append.2 (.inl hx)⟩
        · obtain ⟨La, l1, l2⟩ := allD_mem l b hb i h1
          exact ⟨La, l1, fun x hx => List.mem_append.2 (.inr (l2 x hx))⟩

theorem leaves_nil {E : Env} {all : List Oper} {osl : List (Nat × List Orc)} {n : Nat} : ∀ (f : Nat) (done : List Nat) (ts : TS) (h : Heap), leaves E all osl n f done ts h ≠ some []
  | 0, done, ts, h, he => by
    unfold leaves at he
    split at he <;> cases he
  | f + 1, done, ts, h, he => by
    have one : ∀ i, goD E all osl n (leaves E all osl n f) done ts h i ≠ some [] := by
      intro i hi
      obtain ⟨o, out, L2, _, _, _, h4, h5⟩ := goD_some hi
      have : L2 = [] := by simpa using h5.symm
      subst this
      exact leaves_nil f _ _ _ h4
    unfold leaves at he
    split at he
    · cases he
    · rename_i r rs _
      split at he
      · exact one _ he
      · obtain ⟨La, l1, l2⟩ := allD_mem _ _ he r (by simp)
        cases La with
        | nil => exact one _ l1
        | cons a l => have := l2 a (by simp); cases this

theorem leaves_ok {E : Env} {all : List Oper} {osl : List (Nat × List Orc)} {n : Nat} {K : (Nat → AV) → Heap → Prop} :
    ∀ (f : Nat) (done : List Nat) (listed : Array Bool) (ts : TS) (h : Heap) (Ls : List (List Prop × TS × Heap)), Lst all.length done listed → (∀ x ∈ done, x < all.length) → Closed all.toArray listed → leaves E all osl n f done ts h = some Ls →
      (∀ l ∈ Ls, allP l.1 ∧ K (look l.2.1) l.2.2) → DG E all (osAt osl) n K f listed (look ts) h := by
  intro f
  induction f with
  | zero =>
    intro done listed ts h Ls hl hd hc hs hK
    unfold leaves at hs
    split at hs
    · rename_i hr
      cases hs
      refine ⟨?_, (hK ([], ts, h) (by simp)).2⟩
      cases hrr : Region.ready .any all.toArray listed with
      | nil => rfl
      | cons a r =>
        have := (ready_iff hl hd a).1 (by rw [hrr]; simp)
        rw [hr] at this
        cases this
    · cases hs
  | succ f ih =>
    intro done listed ts h Ls hl hd hc hs hK
    -- one operation
    have goOk : ∀ (i : Nat) (Ls' : List (List Prop × TS × Heap)), i ∈ readyL all done → goD E all osl n (leaves E all osl n f) done ts h i = some Ls' → (∀ l ∈ Ls', allP l.1 ∧ K (look l.2.1) l.2.2) →
        ∃ o out, all[i]? = some o ∧ dstOk n o.dst = true ∧ stepD E all o (look ts) h (osAt osl i) = some out ∧ holds out.o ∧ DG E all (osAt osl) n K f (listed.setIfInBounds i true) (putF (look ts) o.dst out.ts) out.h := by
      intro i Ls' hi hg hK'
      obtain ⟨o, out, L2, ho, hdst, hst, hlv, hLs⟩ := goD_some hg
      subst hLs
      have hil := (List.getElem?_eq_some_iff.1 ho).1
      have hq : holds out.o := by
        cases L2 with
        | nil => exact absurd hlv (leaves_nil _ _ _ _)
        | cons a r => exact (consO_ok (hK' (consO out.o a) (by simp)).1).1
      refine ⟨o, out, ho, hdst, hst, hq, ?_⟩
      rw [← look_put]
      refine ih (i :: done) _ _ _ L2 (hl.add hil) (fun x hx => ?_) (closed_add hc ((ready_iff hl hd i).2 hi)) hlv (fun l hll => ?_)
      · rcases List.mem_cons.1 hx with h1 | h1
        · rw [h1]; exact hil
        · exact hd x h1
      · have h1 := hK' (consO out.o l) (List.mem_map.2 ⟨l, hll, rfl⟩)
        refine ⟨(consO_ok h1.1).2, ?_⟩
        have : (consO out.o l).2 = l.2 := by cases out.o <;> rfl
        rw [this] at h1
        exact h1.2
    unfold leaves at hs
    cases hr : readyL all done with
    | nil =>
      simp only [hr, Option.some.injEq] at hs
      subst hs
      refine DG_done ?_ (hK ([], ts, h) (by simp)).2 _
      cases hrr : Region.ready .any all.toArray listed with
      | nil => rfl
      | cons a r =>
        have := (ready_iff hl hd a).1 (by rw [hrr]; simp)
        rw [hr] at this
        cases this
    | cons r rs =>
      simp only [hr] at hs
      cases hfind : (r :: rs).find? (first E all osl done ts h) with
      | some i =>
        simp only [hfind] at hs
        have hmem : i ∈ readyL all done := by rw [hr]; exact List.mem_of_find?_eq_some hfind
        have hfi := List.find?_some hfind
        obtain ⟨o, out, ho, hdst, hst, hq, hDG⟩ := goOk i Ls hmem hs hK
        unfold first at hfi
        rw [ho] at hfi
        simp only at hfi
        split at hfi
        · cases hfi
        · rename_i B hB
          simp only [Bool.and_eq_true, List.all_eq_true] at hfi
          obtain ⟨hbx, hpr⟩ := hfi
          obtain ⟨hh, _⟩ := stepD_early hB hst (h' := h) (fun _ _ => rfl)
          rw [hh] at hDG
          refine DG_take ho hdst all.length f listed _ h out B hc ((ready_iff hl hd i).2 hmem) hB hst hq (fun b hb => Option.isSome_iff_exists.1 (hbx b hb)) (fun j oj hoj hji hun => ?_) hDG
          have hjl := (List.getElem?_eq_some_iff.1 hoj).1
          have h1 := hpr j (List.mem_range.2 hjl)
          rw [hl.getT hjl] at hun
          simp only [Bool.or_eq_true, hoj, hun, Bool.false_eq_true, or_false, Bool.and_eq_true] at h1
          rcases h1 with (h1 | h1) | h1
          · exact absurd (Nat.eq_of_beq_eq_true h1) hji
          · exact .inl h1
          · exact .inr h1
      | none =>
        simp only [hfind] at hs
        refine DG_all (fun h0 => ?_) (fun i hi => ?_)
        · have := (ready_iff hl hd r).2 (by rw [hr]; simp)
          rw [h0] at this
          cases this
        · have hi' := (ready_iff hl hd i).1 hi
          obtain ⟨La, l1, l2⟩ := allD_mem (r :: rs) Ls hs i (by rw [← hr]; exact hi')
          exact goOk i La hi' l1 (fun l hl' => hK l (l2 l hl'))

theorem look_insK (k : Nat) (v : AV) : ∀ (l : TS) (t : Nat), look (insK k v l) t = look ((k, v) :: l) t
  | [], t => rfl
  | (j, x) :: r, t => by
    unfold insK
    cases h1 : Nat.beq k j with
    | true =>
      have := Nat.eq_of_beq_eq_true h1
      subst this
      simp only [look]
      split <;> rfl
    | false =>
      cases h2 : Nat.blt k j with
      | true => rfl
      | false =>
        have ih := look_insK k v r t
        have hne : k ≠ j := fun e => by subst e; simp at h1
        simp only [look] at ih ⊢
        rw [ih]
        cases h3 : Nat.beq j t with
        | true =>
          have := Nat.eq_of_beq_eq_true h3
          subst this
          simp [h1]
        | false => rfl
theorem look_canon : ∀ (l : TS) (t : Nat), look (canon l) t = look l t
  | [], _ => rfl
  | (k, v) :: r, t => by
    simp only [canon, look_insK, look]
    split
    · rfl
    · exact look_canon r t
theorem sameL_mem {ts : TS} {h : Heap} : ∀ {Ls : List (List Prop × TS × Heap)}, sameL ts h Ls → ∀ l ∈ Ls, allP l.1 ∧ look l.2.1 = look ts ∧ l.2.2 = h
  | [], _, l, hl => by cases hl
  | x :: r, hs, l, hl => by
    rcases List.mem_cons.mp hl with rfl | hl
    · refine ⟨hs.1.1, ?_, hs.1.2.2⟩
      funext t
      rw [← look_canon, hs.1.2.1, look_canon]
    · exact sameL_mem hs.2 l hl
theorem moreP_all {q : List Prop} {ts : TS} {h : Heap} {more : List (List Prop × TS × Heap)} (hm : moreP q ts h more) : ∀ l ∈ (q, ts, h) :: more, allP l.1 ∧ look l.2.1 = look ts ∧ l.2.2 = h := by
  intro l hl
  cases more with
  | nil =>
    simp only [List.mem_singleton] at hl
    subst hl
    exact ⟨hm, rfl, rfl⟩
  | cons x r =>
    rcases List.mem_cons.mp hl with rfl | hl
    · exact ⟨hm.1, rfl, rfl⟩
    · exact sameL_mem hm.2 l hl

theorem wp_draw {E : Env0} (ht : TabOK E) (hm : E.P.follows .mixedOrders = true) {id : Nat} {ops : Array Oper} {osl : List (Nat × List Orc)} {n : Nat} {ts ts1 : TS} {h h1 hb : Heap} {qs : List Prop} {Q : Exit → Act → World → Prop} {βb β : List Con} {Sb S : Addr → Prop} {wb w : World} {tmps : Array Value} {more : List (List Prop × TS × Heap)}
    (hsz : ops.toList.length = ops.size) (hlv : leaves (mk E) ops.toList osl n ops.toList.length [] ts h = some ((qs, ts1, h1) :: more)) (hq : moreP qs ts1 h1 more) (hn : tmps.size = n) (x : Ext hb βb Sb wb h β S w) (r : Rel E h β S w) (rt : RelTS E.T h β w S ts tmps)
    (hK : ∀ (β' : List Con) (S' : Addr → Prop) (w' : World) (tmps' : Array Value), tmps'.size = n → Ext hb βb Sb wb h1 β' S' w' → Rel E h1 β' S' w' → RelTS E.T h1 β' w' S' ts1 tmps' → Q .normal ⟨tmps', []⟩ w') :
    (Code.region id ops true).wp E.P Q ⟨tmps, []⟩ w := by
  refine wp_region_any hm ?_
  have hdg := leaves_ok (E := mk E) (K := fun L hh => L = look ts1 ∧ hh = h1) ops.toList.length [] (Array.replicate ops.size false) ts h _ ⟨by simp, fun j hj => ?_⟩ (by simp) (fun j o ho hj => ?_) hlv (fun l hl => ?_)
  · have hbel : Below w.heap.size w { w with drawn := w.drawn + 1 } := ⟨rfl, rfl, rfl, Nat.le_refl _, fun _ _ => rfl⟩
    have x1 : Ext h β S w h β S { w with drawn := w.drawn + 1 } := Ext.grow r hbel (fun _ h => h) (fun _ h => .inl h)
    have r1 : Rel E h β S { w with drawn := w.drawn + 1 } := r.grow hbel (fun _ h => h) (fun _ h => .inl h)
    have := DG_sound (Q := Q) ht (fun L hh β' S' w' tmps' hKK hn' x' r' rl' => by
      obtain ⟨rfl, rfl⟩ := hKK
      exact hK β' S' w' tmps' hn' x' r' rl') ops.toList.length _ _ _ β S _ tmps hdg hn (x.trans x1) r1 (fun t => (rt t).ext x1)
    rw [hsz] at this
    simpa using this
  · have : j < ops.size := by simpa using hj
    simp [memN, this]
  · by_cases hjs : j < ops.size
    · simp [hjs] at hj
    · simp [hjs] at hj
  · exact moreP_all hq l hl

end Go.AM
