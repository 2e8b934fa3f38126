/-
  Each operation of the abstract machine is one of the model's.
-/
import Derived.Test.YtkibinkahpgboaaDoorUAma
import Derived.Laws.Append
namespace Go.AM
open Go.RowKit
set_option linter.unusedSimpArgs false
set_option linter.unusedVariables false

theorem mk_T (E : Env0) : (mk E).T = E.T := rfl
theorem mk_G (E : Env0) : (mk E).G = E.G := rfl
theorem mk_P (E : Env0) : (mk E).P = E.P := rfl

theorem ne_of_agg {t : TI} (h : t.isAgg = true) : t ≠ ⟨.scalar, 0, 0, []⟩ := by rintro rfl; simp [TI.isAgg] at h
theorem ne_of_size {t : TI} (h : t.size ≠ 0) : t ≠ ⟨.scalar, 0, 0, []⟩ := by rintro rfl; simp at h
theorem ne_of_kind {t : TI} (h : t.kind ≠ .scalar) : t ≠ ⟨.scalar, 0, 0, []⟩ := by rintro rfl; simp at h

theorem mkv_ne {t : TI} {cs : List AV} {r : AV} (h : mkv t (cs.take t.size) = some r) : t ≠ ⟨.scalar, 0, 0, []⟩ := by
  rintro rfl
  simp [mkv, TI.isAgg] at h

theorem mkv_rel {T : TypeId → TI} {h : Heap} {β : List Con} {w : World} {S : Addr → Prop} {t : TI} {cs : List AV} {vs : List Value} {r : AV} (hm : mkv t cs = some r) (hp : PW (RelC T h β w S) cs vs) :
    RelV T h β w S r (mkVal t vs) := by
  unfold mkv at hm
  unfold mkVal
  cases ha : t.isAgg with
  | true =>
    simp only [ha, Option.some.injEq] at hm
    subst hm
    exact .agg _ _ hp.1 (fun y hy => by
      obtain ⟨i, hi⟩ := List.getElem?_of_mem hy
      have hl := (List.getElem?_eq_some_iff.1 hi).1
      have hc : cs[i]? = some (cs[i]'(by rw [hp.1]; exact hl)) := List.getElem?_eq_getElem _
      exact (hp.2 i _ y hc hi).2) (fun i x y h1 h2 => (hp.2 i x y h1 h2).1)
  | false =>
    simp only [ha] at hm
    cases cs with
    | nil => simp at hm
    | cons c cs =>
      simp only [List.head?_cons, Option.some.injEq] at hm
      subst hm
      cases vs with
      | nil => have := hp.1; simp at this
      | cons v vs => exact hp.uncons.1.1

section
variable {E : Env0} {h : Heap} {β : List Con} {S : Addr → Prop} {w : World} {tmps : Array Value} {ts : TS} {K : Act → World → Prop} {Q : Exit → Act → World → Prop} {o : Oper} {os : List Orc} {out : Out}

theorem cell_box {g : Nat} {vs : List Value} {t : TypeId} (hg : w.heap[g]? = some (.cells vs.toArray t (0, 0))) (i : Nat) : w.cell? ⟨g, i, none⟩ = vs[i]? := by simp [World.cell?, hg]

theorem op_load (ht : TabOK E) (r : Rel E h β S w) (rt : RelTS E.T h β w S ts tmps) (hd : dstOk tmps.size o.dst = true) {t : TypeId} {x : Operand} (hop : o.op = .load t x)
    (hs : stepOp (mk E) o ts h os = some out) (ho : holds out.o) (g : Goal E h β S w tmps out K) : o.wp E.P ⟨tmps, []⟩ w K Q := by
  have hx := ev_ok (ds := []) r rt x
  have fin : ∀ (cs : List AV) (vs : List Value) (gg off : Nat) (res : AV) (q : Option Prop) (os' : List Orc), out = ⟨q, AM.put ts o.dst res, h, os'⟩ → mkv (E.T t) (cs.take (E.T t).size) = some res → (E.T t).size ≤ cs.length →
      PW (RelC E.T h β w S) cs vs → Act.eval ⟨tmps, []⟩ x = .pointer (some ⟨gg, off, none⟩) → (∀ (j : Nat) (y : Value), vs[j]? = some y → w.cell? ⟨gg, off + j, none⟩ = some y) → o.wp E.P ⟨tmps, []⟩ w K Q := by
    intro cs vs gg off res q os' hout hm hle hp hev hcell
    subst hout
    obtain ⟨i, d, z, tok⟩ := ht.at_ (mkv_ne hm)
    have hrun := run_loadAt tok w gg off (vs.take (E.T t).size) (by simp [← hp.1]; omega) (fun j y hj => by
      rw [List.getElem?_take] at hj
      split at hj
      · exact hcell j y hj
      · cases hj)
    refine wp_pure r rt hd g (y := mkVal (E.T t) (vs.take (E.T t).size)) ?_ (mkv_rel hm (hp.take _))
    simp only [execOp, hop, hev, Sem.run_bind, hrun, Result.andThen_ok, Sem.run_pure]
  simp only [stepOp, stepOpG, hop, mk_T, mk_G] at hs
  cases he : ev E.G ts x with
  | p b off =>
    simp only [he] at hs hx
    cases hb : h[b]? with
    | none => simp [hb] at hs
    | some B =>
      cases B with
      | row e xs sh => simp [hb] at hs
      | box cs =>
        simp only [hb] at hs
        split at hs
        · rename_i res h1 h2
          simp only [Option.some.injEq] at hs
          obtain ⟨gg, vs, t', c1, c2, c3, c4⟩ := r.box b cs hb
          generalize hev : Act.eval ⟨tmps, []⟩ x = y at hx
          cases hx with
          | d _ _ hd => cases hd
          | p _ _ g2 hbb =>
            rw [c1] at hbb
            cases hbb
            refine fin (cs.drop off) (vs.drop off) gg off res _ _ hs.symm h1 (by simp; have := Nat.le_of_ble_eq_true h2; omega) (PW.drop ⟨c3, fun i x y h1 h2 => c4 i x y h1 h2⟩ off) hev ?_
            intro j y hj
            rw [cell_box c2, ← hj, List.getElem?_drop]
        · cases hs
  | dp cs =>
    simp only [he] at hs hx
    split at hs
    · rename_i res h1 h2
      simp only [Option.some.injEq] at hs
      generalize hev : Act.eval ⟨tmps, []⟩ x = y at hx
      cases hx with
      | d _ _ hd =>
        cases hd with
        | dp _ gg off f f1 f2 =>
          have hle := Nat.le_of_ble_eq_true h2
          refine fin cs ((List.range cs.length).map f) gg off res _ _ hs.symm h1 hle ⟨by simp, fun i x y hi hj => ?_⟩ hev ?_
          · have hl := (List.getElem?_eq_some_iff.1 hi).1
            simp [hl] at hj
            subst hj
            exact ⟨.d _ _ (f2 i x hi), (f1 i x hi).2.2⟩
          · intro j y hj
            by_cases hl : j < cs.length
            · simp [hl] at hj
              subst hj
              exact (f1 j _ (List.getElem?_eq_getElem hl)).2.1
            · simp [hl] at hj
    · cases hs
  | ep b n i off =>
    simp only [he] at hs hx
    cases hb : h[b]? with
    | none => simp [hb] at hs
    | some B =>
      cases B with
      | box cs => simp [hb] at hs
      | row e xs sh =>
        cases os with
        | nil => simp [hb] at hs
        | cons oc os' =>
          cases oc with
          | el c =>
            simp only [hb] at hs
            split at hs
            · rename_i res h1 h2
              simp only [Option.some.injEq] at hs
              have hle := Nat.le_of_ble_eq_true h2
              subst hs
              simp only [holds] at ho
              obtain ⟨hn, hxi⟩ := ho
              generalize hev : Act.eval ⟨tmps, []⟩ x = y at hx
              cases hx with
              | d _ _ hd => cases hd
              | ep _ _ _ _ gg e' xs' sh' hb' _ hy =>
                rw [hb] at hb'
                cases hb'
                obtain ⟨cap, k1⟩ := hy hn
                obtain ⟨k, k2, hrow⟩ := r.row b e xs sh hb
                rw [k1] at k2
                cases k2
                obtain ⟨cs, r1, r2, r3, r4, r5, r6, r7⟩ := hrow
                have hcl : c.length = (E.T e).size := r6 i c hxi
                let f : Nat → Value := fun j => (cs[i * (E.T e).size + j]?).getD undef
                have hf : ∀ j x, c[j]? = some x → w.cell? ⟨gg, i * (E.T e).size + j, none⟩ = some (f j) ∧ RelC E.T h β w S x (f j) := by
                  intro j x hj
                  obtain ⟨y, y1, y2, y3⟩ := r7 i j c x hxi hj
                  have : f j = y := by simp [f, y1]
                  rw [this]
                  exact ⟨by simp [World.cell?, r1, y1], .d _ _ y2, y3⟩
                refine fin (c.drop off) (((List.range c.length).map f).drop off) gg (i * (E.T e).size + off) res _ _ rfl h1 (by simp; omega) (PW.drop ⟨by simp, fun k x y hi hj => ?_⟩ off) hev ?_
                · have hl := (List.getElem?_eq_some_iff.1 hi).1
                  simp [hl] at hj
                  subst hj
                  exact (hf k x hi).2
                · intro j y hj
                  rw [List.getElem?_drop] at hj
                  by_cases hl : off + j < c.length
                  · simp [hl] at hj
                    subst hj
                    rw [Nat.add_assoc]
                    exact (hf _ _ (List.getElem?_eq_getElem hl)).1
                  · simp [hl] at hj
            · cases hs
          | b _ => simp [hb] at hs
          | i _ => simp [hb] at hs
          | call _ _ _ => simp [hb] at hs
          | draw _ => simp [hb] at hs
  | un => simp [he] at hs
  | v _ => simp [he] at hs
  | bl _ => simp [he] at hs
  | agg _ => simp [he] at hs
  | tup _ => simp [he] at hs
  | sl _ => simp [he] at hs
  | nl => simp [he] at hs
  | own _ _ => simp [he] at hs
  | fn _ _ => simp [he] at hs
  | os _ _ _ => simp [he] at hs


theorem pw_rel {l : List AV} {m : List Value} (hp : PW (RelC E.T h β w S) l m) : l.length = m.length ∧ ∀ (i : Nat) (x : AV) (y : Value), l[i]? = some x → m[i]? = some y → RelV E.T h β w S x y ∧ y.oneCell' = true := hp

theorem op_box (ht : TabOK E) (r : Rel E h β S w) (rt : RelTS E.T h β w S ts tmps) (hd : dstOk tmps.size o.dst = true) {t : TypeId} {x : Operand} (hop : o.op = .box t x)
    (hs : stepOp (mk E) o ts h os = some out) (ho : holds out.o) (g : Goal E h β S w tmps out K) : o.wp E.P ⟨tmps, []⟩ w K Q := by
  have hx := ev_ok (ds := []) r rt x
  simp only [stepOp, stepOpG, hop, mk_T, mk_G] at hs
  cases hc : cellsOf (E.T t).size (ev E.G ts x) with
  | none => simp [hc] at hs
  | some cs =>
    simp only [hc, Option.some.injEq] at hs
    subst hs
    obtain ⟨h1, h2⟩ := cellsOf_rel hx hc
    obtain ⟨e1, r1⟩ := r.newBox cs (Act.eval ⟨tmps, []⟩ x).cells.toList t h2.1 h2.2
    refine wp_value r rt hd g (x := .p h.length 0) (y := .pointer (some ⟨w.heap.size, 0, none⟩)) ?_ rfl r1 e1 (.p _ _ _ (by rw [← r.len, getElem?_append_new]))
    simp [execOp, hop, Instr.box, newVar, newRow]

theorem op_alloc (ht : TabOK E) (r : Rel E h β S w) (rt : RelTS E.T h β w S ts tmps) (hd : dstOk tmps.size o.dst = true) {t : TypeId} (hop : o.op = .alloc t)
    (hs : stepOp (mk E) o ts h os = some out) (ho : holds out.o) (g : Goal E h β S w tmps out K) : o.wp E.P ⟨tmps, []⟩ w K Q := by
  simp only [stepOp, stepOpG, hop, mk_T, mk_G] at hs
  split at hs
  · cases hs
  · rename_i hz
    simp only [Option.some.injEq] at hs
    subst hs
    have hne : E.T t ≠ ⟨.scalar, 0, 0, []⟩ := by rintro e; rw [e] at hz; simp at hz
    obtain ⟨i, d, z, tok⟩ := ht.at_ hne
    obtain ⟨z1, z2⟩ := zOkL_rel (T := E.T) (h := h) (β := β) (w := w) (S := S) _ _ tok.zok
    obtain ⟨e1, r1⟩ := r.newBox (E.T t).zero z.cells.toList t z1 z2
    refine wp_value r rt hd g (x := .p h.length 0) (y := .pointer (some ⟨w.heap.size, 0, none⟩)) ?_ rfl r1 e1 (.p _ _ _ (by rw [← r.len, getElem?_append_new]))
    simp [execOp, hop, Instr.alloc, tok.zeroValue, newVar, newRow]

theorem run_storeAt {P : Program} {T : TypeId → TI} {t : TypeId} {i : TypeInfo} {d : TypeDesc} {z : Value} (tok : TOk P T t i d z) (w : World) (g off : Nat) (cs : List Value) (u : TypeId) (y : Value)
    (hg : w.heap[g]? = some (.cells cs.toArray u (0, 0))) (hl : y.cells.size = (T t).size) (hle : off + (T t).size ≤ cs.length) (h1 : ∀ v ∈ y.cells.toList, v.oneCell' = true) :
    ∃ w', (Instr.storeAt t (.pointer (some ⟨g, off, none⟩)) y).run P w = .ok () w' ∧ Stored w w' g (overlay cs off y.cells.toList) u := by
  obtain ⟨w', h2, h3⟩ := run_storeCells (P := P) y.cells.toList 0 w g off cs u hg (by simp [hl]; omega) h1
  refine ⟨w', ?_, by simpa using h3⟩
  simp only [Instr.storeAt, Instr.sureAddr, storeVar, Sem.run_bind, Sem.run_pure, Result.andThen_ok, tok.sizeOf, hl, ne_eq, not_true_eq_false, if_false, Sem.run_ite, h2]

theorem Below.ofStored {w w' : World} {g : Nat} {cs : List Value} {t : TypeId} (h : Stored w w' g cs t) (a : Addr) (ha : a.block ≠ g) : w'.cell? a = w.cell? a :=
  World.cell?_of_block (h.keep a.block ha)

theorem op_store (ht : TabOK E) (r : Rel E h β S w) (rt : RelTS E.T h β w S ts tmps) (hd : dstOk tmps.size o.dst = true) {t : TypeId} {x y : Operand} (hop : o.op = .store t x y)
    (hs : stepOp (mk E) o ts h os = some out) (ho : holds out.o) (g : Goal E h β S w tmps out K) : o.wp E.P ⟨tmps, []⟩ w K Q := by
  have hx := ev_ok (ds := []) r rt x
  have hy := ev_ok (ds := []) r rt y
  simp only [stepOp, stepOpG, hop, mk_T, mk_G] at hs
  cases hc : cellsOf (E.T t).size (ev E.G ts y) with
  | none => simp [hc] at hs
  | some ys =>
    simp only [hc] at hs
    obtain ⟨hyl, hyp⟩ := cellsOf_rel hy hc
    have hne := ne_of_size (cellsOf_ne hc)
    obtain ⟨i, d, z, tok⟩ := ht.at_ hne
    have hysz : (Act.eval ⟨tmps, []⟩ y).cells.size = (E.T t).size := by rw [← Array.length_toList, ← hyp.1, hyl]
    have hy1 : ∀ v ∈ (Act.eval ⟨tmps, []⟩ y).cells.toList, v.oneCell' = true := fun v hv => by
      obtain ⟨j, hj⟩ := List.getElem?_of_mem hv
      have hl := (List.getElem?_eq_some_iff.1 hj).1
      exact (hyp.2 j _ v (List.getElem?_eq_getElem (by rw [hyp.1]; exact hl)) hj).2
    -- the end of both ways
    have fin : ∀ (gg off : Nat) (cs : List Value) (u : TypeId), Act.eval ⟨tmps, []⟩ x = .pointer (some ⟨gg, off, none⟩) → w.heap[gg]? = some (.cells cs.toArray u (0, 0)) → off + (E.T t).size ≤ cs.length →
        (∀ w', Stored w w' gg (overlay cs off (Act.eval ⟨tmps, []⟩ y).cells.toList) u → out.ts = AM.put ts o.dst .un ∧ ∃ β' S', Rel E out.h β' S' w' ∧ Ext h β S w out.h β' S' w') → o.wp E.P ⟨tmps, []⟩ w K Q := by
      intro gg off cs u hev hg hle hfin
      obtain ⟨w', hrun, hst⟩ := run_storeAt tok w gg off cs u _ hg hysz hle hy1
      obtain ⟨hts, β', S', r', e'⟩ := hfin w' hst
      unfold Oper.wp
      have : (execOp (Act.eval ⟨tmps, []⟩) o).run E.P w = .ok .skip w' := by simp only [execOp, hop, hev, Sem.run_bind, hrun, Result.andThen_ok, Sem.run_pure]
      rw [this, Oper.upon_skip, put_defers]
      refine g.k β' S' w' _ (put_size _ _ _) r' e' ?_
      rw [hts]
      exact (rt.ext e').put hd (.d _ _ (.un _))
    cases he : ev E.G ts x with
    | p b off =>
      simp only [he] at hs hx
      cases hb : h[b]? with
      | none => simp [hb] at hs
      | some B =>
        cases B with
        | row e xs sh => simp [hb] at hs
        | box cs =>
          simp only [hb] at hs
          split at hs
          · rename_i hle
            have hle := Nat.le_of_ble_eq_true hle
            simp only [Option.some.injEq] at hs
            subst hs
            obtain ⟨gg, vs, u, c1, c2, c3, c4⟩ := r.box b cs hb
            generalize hev : Act.eval ⟨tmps, []⟩ x = yy at hx
            cases hx with
            | d _ _ hd => cases hd
            | p _ _ g2 hbb =>
              rw [c1] at hbb
              cases hbb
              refine fin gg off vs u hev c2 (by rw [← c3]; exact hle) fun w' hst => ⟨rfl, ?_⟩
              have hset : β.set b (.box gg) = β := by
                apply List.ext_getElem?
                intro i
                by_cases hi : i = b
                · subst hi; rw [set_same c1, c1]
                · rw [set_other hi]
              have hS : ∀ a, S a → a.block ≠ gg := fun a ha e => by
                obtain ⟨e1, xs1, h1, _⟩ := r.free b _ gg a c1 rfl ha e
                rw [hb] at h1
                cases h1
              have tn : Turn h β S w b (.box (cs.take off ++ ys ++ cs.drop (off + (E.T t).size))) (.box gg) (.box gg) S w' := {
                kb := c1
                box := fun _ _ => ⟨⟨_, rfl⟩, rfl⟩
                row := fun e xs sh h1 => by rw [hb] at h1; cases h1
                S_le := fun _ h => h
                S_cell := fun a ha => World.cell?_of_block (hst.keep a.block (hS a ha))
                S_new := fun _ h => .inl h
                S_lt := fun a ha => by rw [hst.size]; exact r.stable a ha
                os := hst.os
                tape := hst.tape
                output := hst.output
                size := by rw [hst.size]; exact Nat.le_refl _
                keep := fun k _ hk => hst.keep k (fun e => hk (by rw [e]; rfl))
                own := fun k hk => by
                  cases hk
                  exact ⟨.inl rfl, by rw [hst.size]; exact r.lt b _ gg c1 rfl⟩ }
              have e1 := r.turnExt hb tn
              have r1 := r.turn hb tn (fun cs' hcs => by
                cases hcs
                have hpw : PW (RelC E.T h β w S) (cs.take off ++ ys ++ cs.drop (off + (E.T t).size)) (overlay vs off (Act.eval ⟨tmps, []⟩ y).cells.toList) := by
                  unfold overlay
                  rw [Array.length_toList, hysz]
                  exact ((PW.take ⟨c3, c4⟩ off).append hyp).append (PW.drop ⟨c3, c4⟩ _)
                exact ⟨gg, _, u, rfl, hst.heap, hpw.1, fun i a b ha hb' => ⟨(hpw.2 i a b ha hb').1.ext e1, (hpw.2 i a b ha hb').2⟩⟩)
                (fun e xs sh h1 => by cases h1) (fun k a hk ha hka => by cases hk; exact absurd hka (hS a ha))
              rw [hset] at e1 r1
              exact ⟨β, S, r1, e1⟩
          · cases hs
    | ep b n i off =>
      simp only [he] at hs hx
      cases hb : (share h (frzML ys))[b]? with
      | none => simp [hb] at hs
      | some B =>
        cases B with
        | box cs => simp [hb] at hs
        | row e xs sh =>
          cases sh with
          | true => simp [hb] at hs
          | false =>
            cases os with
            | nil => simp [hb] at hs
            | cons oc os' =>
              cases oc with
              | el c =>
                simp only [hb] at hs
                split at hs
                · rename_i hle
                  have hle := Nat.le_of_ble_eq_true hle
                  simp only [Option.some.injEq] at hs
                  subst hs
                  simp only [holds] at ho
                  obtain ⟨ho1, hn, hxi⟩ := ho
                  obtain ⟨S1, ⟨e0, r0⟩, d0⟩ := frzL_ok E ys h β S w _ r hyp.1 (fun i x y h1 h2 => (hyp.2 i x y h1 h2).1) ho1
                  have hx := hx.ext e0
                  generalize hev : Act.eval ⟨tmps, []⟩ x = yy at hx
                  cases hx with
                  | d _ _ hd => cases hd
                  | ep _ _ _ _ gg e' xs' sh' hb' _ hyy =>
                    rw [hb] at hb'
                    cases hb'
                    obtain ⟨cap, k1⟩ := hyy hn
                    obtain ⟨k, k2, hrow⟩ := r0.row b e xs false hb
                    rw [k1] at k2
                    cases k2
                    obtain ⟨cs, q1, q2, q3, q4, q5, q6, q7⟩ := hrow
                    have hcl : c.length = (E.T e).size := q6 i c hxi
                    have hil : i < xs.length := (List.getElem?_eq_some_iff.1 hxi).1
                    have hfit : (i + 1) * (E.T e).size ≤ cs.size := by
                      rw [q5]; exact Nat.mul_le_mul_right _ (by omega)
                    rw [Nat.add_mul, Nat.one_mul] at hfit
                    refine fin gg (i * (E.T e).size + off) cs.toList e hev (by simpa using q1) (by simp; omega) fun w' hst => ⟨rfl, ?_⟩
                    have hset : β.set b (.row gg cap) = β := by
                      apply List.ext_getElem?
                      intro i
                      by_cases hi : i = b
                      · subst hi; rw [set_same k1, k1]
                      · rw [set_other hi]
                    have hS : ∀ a, S1 a → a.block ≠ gg := fun a ha e2 => by
                      obtain ⟨e1, xs1, h1, _⟩ := r0.free b _ gg a k1 rfl ha e2
                      rw [hb] at h1
                      cases h1
                    have tn : Turn (share h (frzML ys)) β S1 w b (.row e (xs.set i (c.take off ++ frzL h ys ++ c.drop (off + (E.T t).size))) false) (.row gg cap) (.row gg cap) S1 w' := {
                      kb := k1
                      box := fun cs1 h1 => by rw [hb] at h1; cases h1
                      row := fun e1 xs1 sh1 h1 => by
                        rw [hb] at h1
                        cases h1
                        exact ⟨_, _, rfl, by simp, fun _ => rfl⟩
                      S_le := fun _ h => h
                      S_cell := fun a ha => World.cell?_of_block (hst.keep a.block (hS a ha))
                      S_new := fun _ h => .inl h
                      S_lt := fun a ha => by rw [hst.size]; exact r0.stable a ha
                      os := hst.os
                      tape := hst.tape
                      output := hst.output
                      size := by rw [hst.size]; exact Nat.le_refl _
                      keep := fun k _ hk => hst.keep k (fun e => hk (by rw [e]; rfl))
                      own := fun k hk => by
                        cases hk
                        exact ⟨.inl rfl, by rw [hst.size]; exact r0.lt b _ gg k1 rfl⟩ }
                    have e1 := r0.turnExt hb tn
                    have hDm : ∀ {a : AV} {v : Value}, RelD w S1 a v → RelD w' S1 a v := fun hd => hd.mono (fun _ h => h) tn.S_cell
                    have hfl : (frzL h ys).length = (E.T t).size := by rw [frz_length, hyl]
                    have hyl2 : (Act.eval ⟨tmps, []⟩ y).cells.toList.length = (E.T t).size := by rw [Array.length_toList, hysz]
                    have hov := fun k => overlay_get (cs := cs.toList) (off := i * (E.T e).size + off) (vs := (Act.eval ⟨tmps, []⟩ y).cells.toList) (by rw [hyl2]; simp; omega) k
                    have r1 := r0.turn hb tn (fun cs' hcs => by cases hcs) (fun e2 xs2 sh2 h2 => by
                      cases h2
                      refine ⟨_, by rw [hst.heap], by simpa using q2, q3, q4, ?_, ?_, ?_⟩
                      · simp only [List.size_toArray]; rw [overlay_length _ _ _ (by rw [hyl2]; simp; omega)]; simpa using q5
                      · intro i' c' hi'
                        by_cases e3 : i' = i
                        · subst e3
                          rw [List.getElem?_set_self hil] at hi'
                          cases hi'
                          simp [hfl]; omega
                        · rw [List.getElem?_set_ne (Ne.symm e3)] at hi'
                          exact q6 i' c' hi'
                      · intro i' j c' a hi' hj
                        simp only [List.getElem?_toArray]
                        rw [hov]
                        by_cases e3 : i' = i
                        · subst e3
                          rw [List.getElem?_set_self hil] at hi'
                          cases hi'
                          by_cases j1 : j < off
                          · rw [List.append_assoc, List.getElem?_append_left (by simp; omega), List.getElem?_take, if_pos j1] at hj
                            obtain ⟨v, v1, v2, v3⟩ := q7 i' j c a hxi hj
                            exact ⟨v, by rw [if_pos (by omega)]; simpa using v1, hDm v2, v3⟩
                          · rw [List.append_assoc, List.getElem?_append_right (by simp; omega)] at hj
                            have hto : (c.take off).length = off := by simp; omega
                            rw [hto] at hj
                            rw [if_neg (by omega)]
                            by_cases j2 : j < off + (E.T t).size
                            · rw [List.getElem?_append_left (by rw [hfl]; omega)] at hj
                              rw [if_pos (by rw [hyl2]; omega), show i' * (E.T e).size + j - (i' * (E.T e).size + off) = j - off by omega]
                              have hyj : (Act.eval ⟨tmps, []⟩ y).cells.toList[j - off]? = some ((Act.eval ⟨tmps, []⟩ y).cells.toList[j - off]'(by rw [hyl2]; omega)) := List.getElem?_eq_getElem _
                              exact ⟨_, hyj, hDm (d0 _ a _ hj hyj), hy1 _ (List.mem_of_getElem? hyj)⟩
                            · rw [List.getElem?_append_right (by rw [hfl]; omega), hfl, List.getElem?_drop] at hj
                              rw [if_neg (by rw [hyl2]; omega)]
                              rw [show off + (E.T t).size + (j - off - (E.T t).size) = j by omega] at hj
                              obtain ⟨v, v1, v2, v3⟩ := q7 i' j c a hxi hj
                              exact ⟨v, by simpa using v1, hDm v2, v3⟩
                        · rw [List.getElem?_set_ne (Ne.symm e3)] at hi'
                          obtain ⟨v, v1, v2, v3⟩ := q7 i' j c' a hi' hj
                          have hjl : j < (E.T e).size := by rw [← q6 i' c' hi']; exact (List.getElem?_eq_some_iff.1 hj).1
                          refine ⟨v, ?_, hDm v2, v3⟩
                          rcases Nat.lt_or_gt_of_ne e3 with h4 | h4
                          · have : (i' + 1) * (E.T e).size ≤ i * (E.T e).size := Nat.mul_le_mul_right _ (by omega)
                            rw [Nat.add_mul, Nat.one_mul] at this
                            rw [if_pos (by omega)]; simpa using v1
                          · have : (i + 1) * (E.T e).size ≤ i' * (E.T e).size := Nat.mul_le_mul_right _ (by omega)
                            rw [Nat.add_mul, Nat.one_mul] at this
                            rw [if_neg (by omega), if_neg (by rw [hyl2]; omega)]; simpa using v1) (fun k a hk ha hka => by cases hk; exact absurd hka (hS a ha))
                    rw [hset] at e1 r1
                    exact ⟨β, S1, r1, e0.trans e1⟩
                · cases hs
              | b _ => simp [hb] at hs
              | i _ => simp [hb] at hs
              | call _ _ _ => simp [hb] at hs
              | draw _ => simp [hb] at hs
    | un => simp [he] at hs
    | v _ => simp [he] at hs
    | bl _ => simp [he] at hs
    | agg _ => simp [he] at hs
    | tup _ => simp [he] at hs
    | sl _ => simp [he] at hs
    | dp _ => simp [he] at hs
    | nl => simp [he] at hs
    | own _ _ => simp [he] at hs
    | fn _ _ => simp [he] at hs
    | os _ _ _ => simp [he] at hs

end
end Go.AM

namespace Go.AM
open Go.RowKit
set_option linter.unusedSimpArgs false
set_option linter.unusedVariables false

section
variable {E : Env0} {h : Heap} {β : List Con} {S : Addr → Prop} {w : World} {tmps : Array Value} {ts : TS} {K : Act → World → Prop} {Q : Exit → Act → World → Prop} {o : Oper} {os : List Orc} {out : Out}

theorem fieldsOk_get {P : Program} {size : Nat} : ∀ (offs : List Nat) (fs : List Field), fieldsOk P size offs fs = true → offs.length = fs.length ∧ ∀ (i off : Nat) (f : Field), offs[i]? = some off → fs[i]? = some f →
    off = f.offset ∧ (P.info? f.type).map (·.size) = some ((offs.drop (i + 1)).headD size - off) ∧ (offs.drop (i + 1)).headD size - off ≠ 0
  | [], [], _ => ⟨rfl, by simp⟩
  | o :: os, f :: fs, hk => by
    simp only [fieldsOk, Bool.and_eq_true, decide_eq_true_eq] at hk
    obtain ⟨⟨⟨h1, h2⟩, h3⟩, h4⟩ := hk
    obtain ⟨g1, g2⟩ := fieldsOk_get os fs h4
    refine ⟨by simp [g1], fun i off f' hi hf => ?_⟩
    cases i with
    | zero =>
      simp only [List.getElem?_cons_zero, Option.some.injEq] at hi hf
      subst hi; subst hf
      exact ⟨h1, by simpa using h2, by simpa using h3⟩
    | succ i =>
      simp only [List.getElem?_cons_succ] at hi hf
      simpa using g2 i off f' hi hf
  | [], _ :: _, hk => by cases hk
  | _ :: _, [], hk => by cases hk

theorem TOk.struct_ {P : Program} {T : TypeId → TI} {t : TypeId} {i : TypeInfo} {d : TypeDesc} {z : Value} (tok : TOk P T t i d z) {offs : List Nat} (hk : (T t).kind = .struct offs) :
    ∃ fs : Array Field, d = .struct fs ∧ fieldsOk P (T t).size offs fs.toList = true := by
  have := tok.kind
  unfold kindOk at this
  rw [hk] at this
  cases d <;> simp at this
  exact ⟨_, rfl, this⟩

theorem TOk.slice_ {P : Program} {T : TypeId → TI} {t : TypeId} {i : TypeInfo} {d : TypeDesc} {z : Value} (tok : TOk P T t i d z) {e : TypeId} (hk : (T t).kind = .slice e) :
    d = .slice e ∧ (T e).size ≠ 0 := by
  have := tok.kind
  unfold kindOk at this
  rw [hk] at this
  cases d <;> simp at this
  obtain ⟨⟨rfl, h2⟩, _⟩ := this
  exact ⟨rfl, h2⟩

theorem TOk.array_ {P : Program} {T : TypeId → TI} {t : TypeId} {i : TypeInfo} {d : TypeDesc} {z : Value} (tok : TOk P T t i d z) {n : Nat} {e : TypeId} (hk : (T t).kind = .array n e) :
    d = .array n e ∧ (T e).size ≠ 0 ∧ (T t).size = n * (T e).size := by
  have := tok.kind
  unfold kindOk at this
  rw [hk] at this
  cases d <;> simp at this
  obtain ⟨⟨⟨rfl, rfl⟩, h2⟩, h3⟩ := this
  exact ⟨rfl, h2, h3⟩

theorem TOk.int_ {P : Program} {T : TypeId → TI} {t : TypeId} {i : TypeInfo} {d : TypeDesc} {z : Value} (tok : TOk P T t i d z) {k : IntKind} (hk : (T t).kind = .int k) : d = .int k := by
  have := tok.kind
  unfold kindOk at this
  rw [hk] at this
  cases d <;> simp at this
  obtain ⟨rfl, _⟩ := this
  rfl

theorem TOk.str_ {P : Program} {T : TypeId → TI} {t : TypeId} {i : TypeInfo} {d : TypeDesc} {z : Value} (tok : TOk P T t i d z) (hk : (T t).kind = .str) : d = .string := by
  have := tok.kind
  unfold kindOk at this
  rw [hk] at this
  cases d <;> simp at this
  rfl

theorem TOk.bool_ {P : Program} {T : TypeId → TI} {t : TypeId} {i : TypeInfo} {d : TypeDesc} {z : Value} (tok : TOk P T t i d z) (hk : (T t).kind = .bool) : d = .bool := by
  have := tok.kind
  unfold kindOk at this
  rw [hk] at this
  cases d <;> simp at this
  rfl

theorem sizeOf_field {P : Program} {f : Field} {n : Nat} (h : (P.info? f.type).map (·.size) = some n) (w : World) : (Go.sizeOf f.type).run P w = .ok n w := by
  cases hi : P.info? f.type with
  | none => simp [hi] at h
  | some i =>
    simp only [hi, Option.map_some, Option.some.injEq] at h
    simp [Go.sizeOf, typeInfo, hi, h]

theorem places_ok {P : Program} {size : Nat} (w : World) : ∀ (fs : List Field) (offs : List Nat), fieldsOk P size offs fs = true →
    ∃ pl : List (Nat × Nat), (fs.mapM fun (f : Field) => (do pure (f.offset, ← Go.sizeOf f.type) : Sem (Nat × Nat))).run P w = .ok pl w ∧
      ∀ i, pl[i]? = placeOf offs size i
  | [], [], _ => ⟨[], by simp, by simp [placeOf]⟩
  | [], _ :: _, hk => by cases hk
  | _ :: _, [], hk => by cases hk
  | f :: fs, o :: os, hk => by
    simp only [fieldsOk, Bool.and_eq_true, decide_eq_true_eq] at hk
    obtain ⟨⟨⟨h1, h2⟩, h3⟩, h4⟩ := hk
    obtain ⟨pl, p1, p2⟩ := places_ok w fs os h4
    refine ⟨(f.offset, os.headD size - o) :: pl, ?_, fun i => ?_⟩
    · simp only [List.mapM_cons, Sem.run_bind, sizeOf_field h2, Result.andThen_ok, Sem.run_pure, p1]
    · cases i with
      | zero => simp [placeOf, h1]
      | succ i => simp [p2 i, placeOf]

theorem pw_parts (r : Rel E h β S w) (rt : RelTS E.T h β w S ts tmps) (parts : List (Nat × Operand)) :
    PW (fun (x : Nat × AV) (y : Nat × Value) => x.1 = y.1 ∧ RelV E.T h β w S x.2 y.2) (parts.map fun (x : Nat × Operand) => (x.1, ev E.G ts x.2)) (parts.map fun (x : Nat × Operand) => (x.1, Act.eval ⟨tmps, []⟩ x.2)) := by
  refine ⟨by simp, fun i x y hx hy => ?_⟩
  simp only [List.getElem?_map, Option.map_eq_some_iff] at hx hy
  obtain ⟨p, h1, rfl⟩ := hx
  obtain ⟨q, h2, rfl⟩ := hy
  rw [h1] at h2
  cases h2
  exact ⟨rfl, ev_ok r rt _⟩

theorem one_of_pw {l : List AV} {m : List Value} (hp : PW (RelC E.T h β w S) l m) : ∀ y ∈ m, y.oneCell' = true := fun y hy => by
  obtain ⟨i, hi⟩ := List.getElem?_of_mem hy
  have hl := (List.getElem?_eq_some_iff.1 hi).1
  exact (hp.2 i _ y (List.getElem?_eq_getElem (by rw [hp.1]; exact hl)) hi).2

theorem op_build (ht : TabOK E) (r : Rel E h β S w) (rt : RelTS E.T h β w S ts tmps) (hd : dstOk tmps.size o.dst = true) {t : TypeId} {parts : Array (Nat × Operand)} (hop : o.op = .build t parts)
    (hs : stepOp (mk E) o ts h os = some out) (ho : holds out.o) (g : Goal E h β S w tmps out K) : o.wp E.P ⟨tmps, []⟩ w K Q := by
  simp only [stepOp, stepOpG, hop, mk_T, mk_G] at hs
  have hpw := pw_parts r rt parts.toList
  cases hk : (E.T t).kind with
  | struct offs =>
    simp only [hk] at hs
    split at hs
    · rename_i cs hf
      simp only [Option.some.injEq] at hs
      subst hs
      obtain ⟨i, d, z, tok⟩ := ht.at_ (ne_of_kind (by rw [hk]; simp) : E.T t ≠ _)
      obtain ⟨fs, rfl, hfs⟩ := tok.struct_ hk
      have hz := zOkL_rel (T := E.T) (h := h) (β := β) (w := w) (S := S) _ _ tok.zok
      obtain ⟨pl, p1, p2⟩ := places_ok (P := E.P) w fs.toList offs hfs
      obtain ⟨out', o1, o2, o3⟩ := fill_ok (R := RelC E.T h β w S) rfl _ _ _ _ _ z.cells.toList hpw hz hf
      have hpl : placeOf offs (E.T t).size = (fun i => pl.toArray[i]?) := by
        funext i
        rw [List.getElem?_toArray, p2 i]
      rw [hpl] at o1
      refine wp_pure r rt hd g (y := .agg out'.toArray) ?_ (.agg _ _ o2.1 (one_of_pw o2) (fun i x y h1 h2 => (o2.2 i x y h1 h2).1))
      simp only [execOp, hop, Instr.build, Sem.run_bind, tok.zeroValue, Result.andThen_ok, run_underlying tok.und, Array.mapM_eq_mapM_toList, Sem.run_map, p1, Array.toList_map, Sem.run_pure]
      rw [Array.toArray_toList] at o1
      rw [o1]
      simp
    · cases hs
  | array n e =>
    simp only [hk] at hs
    split at hs
    · rename_i cs hf
      simp only [Option.some.injEq] at hs
      subst hs
      obtain ⟨i, d, z, tok⟩ := ht.at_ (ne_of_kind (by rw [hk]; simp) : E.T t ≠ _)
      obtain ⟨rfl, hes, hts⟩ := tok.array_ hk
      obtain ⟨i2, d2, z2, tok2⟩ := ht.at_ (ne_of_size hes)
      have hz := zOkL_rel (T := E.T) (h := h) (β := β) (w := w) (S := S) _ _ tok.zok
      obtain ⟨out', o1, o2, o3⟩ := fill_ok (R := RelC E.T h β w S) rfl _ _ _ _ _ z.cells.toList hpw hz hf
      refine wp_pure r rt hd g (y := .agg out'.toArray) ?_ (.agg _ _ o2.1 (one_of_pw o2) (fun i x y h1 h2 => (o2.2 i x y h1 h2).1))
      simp only [execOp, hop, Instr.build, Sem.run_bind, tok.zeroValue, Result.andThen_ok, run_underlying tok.und, tok2.sizeOf, Array.toList_map, Sem.run_pure]
      rw [Array.toArray_toList] at o1
      rw [o1]
      simp
    · cases hs
  | scalar => simp [hk] at hs
  | int _ => simp [hk] at hs
  | str => simp [hk] at hs
  | bool => simp [hk] at hs
  | slice _ => simp [hk] at hs


theorem chunks_length (size : Nat) : ∀ (n : Nat) (cs : List AV), (chunks size n cs).length = n
  | 0, _ => rfl
  | n + 1, cs => by simp [chunks, chunks_length size n]

theorem chunks_get (size : Nat) : ∀ (n : Nat) (cs : List AV) (i : Nat), i < n → (chunks size n cs)[i]? = some ((cs.drop (i * size)).take size)
  | 0, _, _, hi => absurd hi (by omega)
  | n + 1, cs, 0, _ => by simp [chunks]
  | n + 1, cs, i + 1, hi => by
    simp only [chunks, List.getElem?_cons_succ]
    rw [chunks_get size n _ i (by omega), List.drop_drop, Nat.add_mul, Nat.one_mul, Nat.add_comm]

theorem repl_length (zero : List AV) : ∀ n, (repl zero n).length = n * zero.length
  | 0 => by simp [repl]
  | n + 1 => by simp [repl, repl_length zero n, Nat.add_mul]; omega

theorem repl_get (zero : List AV) : ∀ (n i : Nat), i < n * zero.length → (repl zero n)[i]? = zero[i % zero.length]?
  | 0, i, hi => by omega
  | n + 1, i, hi => by
    simp only [repl]
    by_cases h1 : i < zero.length
    · rw [List.getElem?_append_left h1, Nat.mod_eq_of_lt h1]
    · have hm : i % zero.length = (i - zero.length) % zero.length := Nat.mod_eq_sub_mod (by omega)
      rw [Nat.add_mul, Nat.one_mul] at hi
      rw [List.getElem?_append_right (by omega), repl_get zero n _ (by omega), hm]

/-- A new row of data. -/
theorem Rel.newData {E : Env0} {h : Heap} {β : List Con} {S : Addr → Prop} {w : World} (r : Rel E h β S w) (e : TypeId) (cs : List AV) (vs : List Value) (size n : Nat) (hl : cs.length = vs.length) (hn : vs.length = n * size) (hm : n ≤ maxLen)
    (hv : ∀ (i : Nat) (x : AV) (y : Value), cs[i]? = some x → vs[i]? = some y → RelD w S x y ∧ y.oneCell' = true) :
    ∃ S', Ext h β S w h β S' (w.alloc (.cells vs.toArray e)) ∧ Rel E h β S' (w.alloc (.cells vs.toArray e)) ∧
      RelD (w.alloc (.cells vs.toArray e)) S' (.sl (chunks size n cs)) (.slice (some ⟨w.heap.size, 0, none⟩) n n) := by
  let w' := w.alloc (.cells vs.toArray e)
  let S' : Addr → Prop := fun a => S a ∨ a.block = w.heap.size
  have hb : Below w.heap.size w w' := (Below.refl _ _).alloc (Nat.le_refl _) _
  have hsz : w'.heap.size = w.heap.size + 1 := by simp [w']
  have hx : Ext h β S w h β S' w' := Ext.grow r hb (fun a ha => .inl ha) (fun a ha => ha.imp id fun e => by omega)
  have hr : Rel E h β S' w' := r.grow hb (fun a ha => .inl ha) (fun a ha => ha.imp id fun e => by omega)
  have hnew : w'.heap[w.heap.size]? = some (.cells vs.toArray e (0, 0)) := heap_alloc_new w _
  refine ⟨S', hx, hr, ?_⟩
  have key : ∀ i j c x, (chunks size n cs)[i]? = some c → c[j]? = some x → j < size ∧ i * size + j < vs.length ∧ cs[i * size + j]? = some x := by
    intro i j c x hi hj
    have hin : i < n := by have := (List.getElem?_eq_some_iff.1 hi).1; rwa [chunks_length] at this
    rw [chunks_get size n cs i hin] at hi
    cases hi
    rw [List.getElem?_take] at hj
    split at hj
    · rename_i hjs
      rw [List.getElem?_drop] at hj
      exact ⟨hjs, by rw [← hl]; exact (List.getElem?_eq_some_iff.1 hj).1, hj⟩
    · cases hj
  have hq := RelD.sl (w := w') (S := S') (chunks size n cs) (some ⟨w.heap.size, 0, none⟩) n w.heap.size 0 size (fun k => (vs[k]?).getD undef) (fun _ => rfl) (by rw [chunks_length]; exact Nat.le_refl _) hm
    (fun i c hi => by
      have hin : i < n := by have := (List.getElem?_eq_some_iff.1 hi).1; rwa [chunks_length] at this
      rw [chunks_get size n cs i hin] at hi
      cases hi
      have : (i + 1) * size ≤ n * size := Nat.mul_le_mul_right _ hin
      rw [Nat.add_mul, Nat.one_mul] at this
      simp
      omega)
    (fun i j c x hi hj => by
      obtain ⟨k1, k2, k3⟩ := key i j c x hi hj
      have hvj : vs[i * size + j]? = some (vs[i * size + j]'k2) := List.getElem?_eq_getElem k2
      refine ⟨.inr rfl, ?_, ?_⟩
      · rw [Nat.zero_add, cell_box hnew, hvj]; rfl
      · rw [hvj]; exact (hv _ _ _ k3 hvj).2)
    (fun i j c x hi hj => by
      obtain ⟨k1, k2, k3⟩ := key i j c x hi hj
      have hvj : vs[i * size + j]? = some (vs[i * size + j]'k2) := List.getElem?_eq_getElem k2
      rw [hvj]
      exact (hv _ _ _ k3 hvj).1.mono hx.S_le hx.S_cell)
  rw [chunks_length] at hq
  exact hq

theorem op_buildSlice (ht : TabOK E) (r : Rel E h β S w) (rt : RelTS E.T h β w S ts tmps) (hd : dstOk tmps.size o.dst = true) {t : TypeId} {n : Nat} {parts : Array (Nat × Operand)} (hop : o.op = .buildSlice t n parts)
    (hs : stepOp (mk E) o ts h os = some out) (ho : holds out.o) (g : Goal E h β S w tmps out K) : o.wp E.P ⟨tmps, []⟩ w K Q := by
  simp only [stepOp, stepOpG, hop, mk_T, mk_G] at hs
  have hpw := pw_parts r rt parts.toList
  cases hk : (E.T t).kind with
  | slice e =>
    simp only [hk] at hs
    split at hs
    · rename_i cs hf hle
      have hle := Nat.le_of_ble_eq_true hle
      simp only [Option.some.injEq] at hs
      subst hs
      obtain ⟨i, d, z, tok⟩ := ht.at_ (ne_of_kind (by rw [hk]; simp) : E.T t ≠ _)
      obtain ⟨rfl, hes⟩ := tok.slice_ hk
      obtain ⟨i2, d2, z2, tok2⟩ := ht.at_ (ne_of_size hes)
      obtain ⟨z1, z3⟩ := zOkL_rel (T := E.T) (h := h) (β := β) (w := w) (S := S) _ _ tok2.zok
      have hzl := tok2.zlen
      have hzs : z2.cells.size = (E.T e).size := by rw [← Array.length_toList, ← z1, hzl]
      let zs : List Value := (List.range (n * (E.T e).size)).map fun k => z2.cells[k % z2.cells.size]!
      have hz : PW (RelC E.T h β w S) (repl (E.T e).zero n) zs := by
        refine ⟨by simp [zs, repl_length, hzl], fun k x y hx hy => ?_⟩
        have hkl : k < n * (E.T e).size := by have := (List.getElem?_eq_some_iff.1 hx).1; rwa [repl_length, hzl] at this
        rw [repl_get _ n k (by rw [hzl]; exact hkl), hzl] at hx
        have hkm : k % (E.T e).size < z2.cells.size := by rw [hzs]; exact Nat.mod_lt _ (by omega)
        simp [zs, hkl] at hy
        rw [hzs] at hy
        rw [getElem!_pos z2.cells _ hkm] at hy
        refine z3 _ x y hx ?_
        rw [Array.getElem?_toList, Array.getElem?_eq_getElem hkm, hy]
      obtain ⟨out', o1, o2, o3⟩ := fill_ok (R := RelC E.T h β w S) rfl _ _ _ _ _ zs hpw hz hf
      have hcl : cs.length = n * (E.T e).size := by rw [o3, repl_length, hzl]
      obtain ⟨S1, ⟨e1, r1⟩, d1⟩ := frzL_ok E cs h β S w out' r o2.1 (fun i x y h1 h2 => (o2.2 i x y h1 h2).1) (frzB_OL ho)
      have hmax : n ≤ maxLen := by
        have : n * 1 ≤ n * (E.T e).size := Nat.mul_le_mul_left _ (by omega)
        unfold maxLen
        omega
      obtain ⟨S2, e2, r2, d2⟩ := r1.newData e (frzL h cs) out' (E.T e).size n (by rw [frz_length]; exact o2.1) (by rw [← o2.1, hcl]) hmax (fun i x y h1 h2 => ⟨d1 i x y h1 h2, one_of_pw o2 y (List.mem_of_getElem? h2)⟩)
      refine wp_value r rt hd g (x := slOf n (chunks (E.T e).size n (frzL h cs))) (y := .slice (some ⟨w.heap.size, 0, none⟩) n n) ?_ rfl r2 (e1.trans e2) (by cases n with | zero => exact .nl _ | succ n => exact .d _ _ d2)
      have hgt : ¬ (n * (E.T e).size > 2 ^ 24) := by omega
      by_cases h0 : n * (E.T e).size = 0
      · have harr : (Array.range (n * (E.T e).size)).map (fun k => (#[] : Array Value)[k % (#[] : Array Value).size]!) = zs.toArray := by simp [zs, h0]
        simp only [execOp, hop, Instr.buildSlice, Sem.run_bind, run_underlying tok.und, Result.andThen_ok, tok2.sizeOf, if_neg hgt, Sem.run_ite, if_pos h0, harr, Array.toList_map, o1, Sem.run_pure, newRow, run_newObj]
        simp
      · have harr : (Array.range (n * (E.T e).size)).map (fun k => z2.cells[k % z2.cells.size]!) = zs.toArray := by
          apply Array.ext'
          simp [zs, Array.toList_map, Array.toList_range]
        simp only [execOp, hop, Instr.buildSlice, Sem.run_bind, run_underlying tok.und, Result.andThen_ok, tok2.sizeOf, if_neg hgt, Sem.run_ite, if_neg h0, tok2.zeroValue, harr, Array.toList_map, o1, Sem.run_pure, newRow, run_newObj]
        simp
    · cases hs
  | scalar => simp [hk] at hs
  | int _ => simp [hk] at hs
  | str => simp [hk] at hs
  | bool => simp [hk] at hs
  | struct _ => simp [hk] at hs
  | array _ _ => simp [hk] at hs

end
end Go.AM

namespace Go.AM
open Go.RowKit
set_option linter.unusedSimpArgs false
set_option linter.unusedVariables false

section
variable {E : Env0} {h : Heap} {β : List Con} {S : Addr → Prop} {w : World} {tmps : Array Value} {ts : TS} {K : Act → World → Prop} {Q : Exit → Act → World → Prop} {o : Oper} {os : List Orc} {out : Out}

theorem RelV.v_inv {T : TypeId → TI} {x y : Value} (hr : RelV T h β w S (.v x) y) : y = x := by
  cases hr with
  | d _ _ hd => cases hd with | v _ _ => rfl

theorem RelV.bl_inv {T : TypeId → TI} {b : Bool} {y : Value} (hr : RelV T h β w S (.bl b) y) : y = .bool b := by
  cases hr with
  | d _ _ hd => cases hd with | bl _ => rfl

theorem RelV.bool_inv {T : TypeId → TI} {x : AV} {b : Bool} {y : Value} (hr : RelV T h β w S x y) (hb : bool? x = some b) : y = .bool b := by
  unfold bool? at hb
  split at hb
  · cases hb; exact hr.bl_inv
  · cases hb; exact hr.v_inv
  · cases hb

theorem relV_bool {T : TypeId → TI} (b : Bool) : RelV T h β w S (.v (.bool b)) (.bool b) := .d _ _ (.v _ rfl)
theorem relV_int {T : TypeId → TI} (k : IntKind) (n : Int) : RelV T h β w S (.v (.int k n)) (.int k n) := .d _ _ (.v _ rfl)

theorem op_fieldAddr (ht : TabOK E) (r : Rel E h β S w) (rt : RelTS E.T h β w S ts tmps) (hd : dstOk tmps.size o.dst = true) {t : TypeId} {x : Operand} {f : Nat} (hop : o.op = .fieldAddr t x f)
    (hs : stepOp (mk E) o ts h os = some out) (ho : holds out.o) (g : Goal E h β S w tmps out K) : o.wp E.P ⟨tmps, []⟩ w K Q := by
  have hx := ev_ok (ds := []) r rt x
  simp only [stepOp, stepOpG, hop, mk_T, mk_G] at hs
  cases hk : (E.T t).kind with
  | struct offs =>
    simp only [hk] at hs
    obtain ⟨i, d, z, tok⟩ := ht.at_ (ne_of_kind (by rw [hk]; simp) : E.T t ≠ _)
    obtain ⟨fs, rfl, hfs⟩ := tok.struct_ hk
    obtain ⟨hl, hget⟩ := fieldsOk_get _ _ hfs
    have run : ∀ (gg a d : Nat), offs[f]? = some d → Act.eval ⟨tmps, []⟩ x = .pointer (some ⟨gg, a, none⟩) → (execOp (Act.eval ⟨tmps, []⟩) o).run E.P w = .ok (.value (.pointer (some ⟨gg, a + d, none⟩))) w := by
      intro gg a d hd1 hev
      have hfl := (List.getElem?_eq_some_iff.1 hd1).1
      have hf : fs.toList[f]? = some (fs.toList[f]'(by rw [← hl]; exact hfl)) := List.getElem?_eq_getElem _
      obtain ⟨q1, q2, q3⟩ := hget f d _ hd1 hf
      have hfa : fs[f]? = some (fs.toList[f]'(by rw [← hl]; exact hfl)) := by rw [← Array.getElem?_toList]; exact hf
      simp only [execOp, hop, Instr.fieldAt, Sem.run_bind, run_underlying tok.und, Result.andThen_ok, hfa, hev, Instr.sureAddr, Sem.run_pure, fieldPlace, sizeOf_field q2, if_neg q3, Sem.run_ite, add_mk, ← q1]
    split at hs
    · rename_i d b off hof he
      simp only [Option.some.injEq] at hs
      subst hs
      rw [he] at hx
      generalize hev : Act.eval ⟨tmps, []⟩ x = y at hx
      cases hx with
      | d _ _ hd => cases hd
      | p _ _ gg hb => exact wp_pure r rt hd g (run gg off d hof hev) (.p _ _ _ hb)
    · rename_i d cs hof he
      simp only [Option.some.injEq] at hs
      subst hs
      rw [he] at hx
      generalize hev : Act.eval ⟨tmps, []⟩ x = y at hx
      cases hx with
      | d _ _ hd1 => cases hd1 with
        | dp _ gg off fv f1 f2 =>
          refine wp_pure r rt hd g (run gg off d hof hev) (.d _ _ (.dp _ gg (off + d) (fun j => fv (d + j)) (fun j x hj => ?_) (fun j x hj => ?_)))
          · rw [List.getElem?_drop] at hj
            rw [Nat.add_assoc]
            exact f1 _ x hj
          · rw [List.getElem?_drop] at hj
            exact f2 _ x hj
    · rename_i d b n i off hof he
      simp only [Option.some.injEq] at hs
      subst hs
      rw [he] at hx
      generalize hev : Act.eval ⟨tmps, []⟩ x = y at hx
      cases hx with
      | d _ _ hd => cases hd
      | ep _ _ _ _ gg e xs sh hb hn hy =>
        refine wp_pure r rt hd g (run gg _ d hof hev) ?_
        rw [Nat.add_assoc]
        exact .ep _ _ _ _ gg e xs sh hb hn hy
    · cases hs
  | scalar => simp [hk] at hs
  | int _ => simp [hk] at hs
  | str => simp [hk] at hs
  | bool => simp [hk] at hs
  | slice _ => simp [hk] at hs
  | array _ _ => simp [hk] at hs


theorem run_part {P : Program} {T : TypeId → TI} {t : TypeId} {i : TypeInfo} {d : TypeDesc} {z : Value} (tok : TOk P T t i d z) (w : World) (vs : List Value) (off : Nat) (hle : off + (T t).size ≤ vs.length) :
    (part t vs.toArray off).run P w = .ok (mkVal (T t) ((vs.drop off).take (T t).size)) w := by
  simp only [part, Sem.run_bind, tok.isAgg, Result.andThen_ok, Sem.run_ite, mkVal]
  cases ha : (T t).isAgg with
  | true =>
    simp only [if_true, Sem.run_bind, tok.sizeOf, Result.andThen_ok, Sem.run_pure]
    congr 2
    simp [List.extract_eq_take_drop]
  | false =>
    have h1 := tok.size1 ha
    have hl : off < vs.length := by omega
    have e1 : vs.toArray[off]? = some vs[off] := by rw [List.getElem?_toArray]; exact List.getElem?_eq_getElem hl
    have e2 : ((vs.drop off).take (T t).size).headD undef = vs[off] := by rw [h1, List.drop_eq_getElem_cons hl]; rfl
    rw [e2]
    simp only [Bool.false_eq_true, if_false, e1, Sem.run_pure]

theorem op_field (ht : TabOK E) (r : Rel E h β S w) (rt : RelTS E.T h β w S ts tmps) (hd : dstOk tmps.size o.dst = true) {t : TypeId} {x : Operand} {f : Nat} (hop : o.op = .field t x f)
    (hs : stepOp (mk E) o ts h os = some out) (ho : holds out.o) (g : Goal E h β S w tmps out K) : o.wp E.P ⟨tmps, []⟩ w K Q := by
  have hx := ev_ok (ds := []) r rt x
  simp only [stepOp, stepOpG, hop, mk_T, mk_G, mk_P] at hs
  cases hk : (E.T t).kind with
  | struct offs =>
    simp only [hk] at hs
    cases he : ev E.G ts x with
    | agg cs =>
      simp only [he] at hs hx
      cases hof : offs[f]? with
      | none => simp [hof] at hs
      | some d =>
        simp only [hof] at hs
        split at hs
        · rename_i res hm hle
          have hle := Nat.le_of_ble_eq_true hle
          simp only [Option.some.injEq] at hs
          subst hs
          obtain ⟨i, dd, z, tok⟩ := ht.at_ (ne_of_kind (by rw [hk]; simp) : E.T t ≠ _)
          obtain ⟨fs, rfl, hfs⟩ := tok.struct_ hk
          obtain ⟨hl, hget⟩ := fieldsOk_get _ _ hfs
          obtain ⟨vs, hev, hvl, hv1, hvr⟩ := hx.agg_inv
          simp only [holds, fieldTy, tok.und] at ho
          cases hff : fs[f]? with
          | none => simp [hff] at ho
          | some fl =>
            simp only [hff, Option.map_some, Option.some.injEq] at ho
            obtain ⟨q1, _, _⟩ := hget f d fl hof (by rw [Array.getElem?_toList]; exact hff)
            obtain ⟨i2, d2, z2, tok2⟩ := ht.at_ (mkv_ne hm)
            have hrun := run_part tok2 w vs d (by rw [← hvl]; exact hle)
            refine wp_pure r rt hd g (y := mkVal (E.T o.type) ((vs.drop d).take (E.T o.type).size)) ?_ (mkv_rel hm (((PW.drop ⟨hvl, fun i a b ha hb => ⟨hvr i a b ha hb, hv1 b (List.mem_of_getElem? hb)⟩⟩ d)).take _))
            simp only [execOp, hop, Instr.field, Sem.run_bind, run_underlying tok.und, Result.andThen_ok, hff, hev, asAgg, Sem.run_pure, ho, ← q1, hrun]
        · cases hs
    | _ => simp [he] at hs
  | scalar => simp [hk] at hs
  | int _ => simp [hk] at hs
  | str => simp [hk] at hs
  | bool => simp [hk] at hs
  | slice _ => simp [hk] at hs
  | array _ _ => simp [hk] at hs

theorem op_indexAddr (ht : TabOK E) (r : Rel E h β S w) (rt : RelTS E.T h β w S ts tmps) (hd : dstOk tmps.size o.dst = true) {t : TypeId} {x ix : Operand} (hop : o.op = .indexAddr t x ix)
    (hs : stepOp (mk E) o ts h os = some out) (ho : holds out.o) (g : Goal E h β S w tmps out K) : o.wp E.P ⟨tmps, []⟩ w K Q := by
  have hx := ev_ok (ds := []) r rt x
  have hix := ev_ok (ds := []) r rt ix
  simp only [stepOp, stepOpG, hop, mk_T, mk_G, mk_P] at hs
  split at hs
  · rename_i el xs k i hk he hi
    rw [he] at hx
    rw [hi] at hix
    have hev2 := hix.v_inv
    obtain ⟨ti, dd, z, tok⟩ := ht.at_ (ne_of_kind (by rw [hk]; simp) : E.T t ≠ _)
    obtain ⟨rfl, hes⟩ := tok.slice_ hk
    obtain ⟨ti2, dd2, z2, tok2⟩ := ht.at_ (ne_of_size hes)
    split at hs
    · rename_i c os'
      simp only [Option.some.injEq] at hs
      subst hs
      simp only [holds] at ho
      obtain ⟨h0, hc, hcl⟩ := ho
      have hil := (List.getElem?_eq_some_iff.1 hc).1
      generalize hev : Act.eval ⟨tmps, []⟩ x = y at hx
      cases hx with
      | d _ _ hd1 => cases hd1 with
        | sl _ a cap gg off size f f1 f2 f3 f4 f5 f6 =>
          have ha := f1 (by intro e; rw [e] at hil; simp at hil)
          have hsz : size = (E.T el).size := by rw [← f4 _ c hc]; exact hcl
          refine wp_pure r rt hd g (y := .pointer (some ⟨gg, off + i.toNat * (E.T el).size, none⟩)) ?_ (.d _ _ (.dp _ gg (off + i.toNat * (E.T el).size) (fun j => f (i.toNat * (E.T el).size + j)) (fun j x hj => ?_) (fun j x hj => ?_)))
          · have hlt : 0 ≤ i ∧ i < (xs.length : Int) := by omega
            simp only [execOp, hop, Instr.indexAt, hev2, asIntOf, Sem.run_bind, Sem.run_pure, Result.andThen_ok, run_underlying tok.und, hev, ha, hlt, and_self, if_true, Sem.run_ite, tok2.sizeOf, add_mk]
          · have := f5 _ j c x hc hj
            rw [hsz] at this
            rw [Nat.add_assoc]
            exact this
          · have := f6 _ j c x hc hj
            rw [hsz] at this
            exact this
    · cases hs
  · rename_i el b n k i hk he hi
    rw [he] at hx
    rw [hi] at hix
    have hev2 := hix.v_inv
    obtain ⟨ti, dd, z, tok⟩ := ht.at_ (ne_of_kind (by rw [hk]; simp) : E.T t ≠ _)
    obtain ⟨rfl, hes⟩ := tok.slice_ hk
    obtain ⟨ti2, dd2, z2, tok2⟩ := ht.at_ (ne_of_size hes)
    cases hb : h[b]? with
    | none => simp [hb] at hs
    | some B =>
      cases B with
      | box cs => simp [hb] at hs
      | row e xs sh =>
        simp only [hb] at hs
        split at hs
        · rename_i hee
          subst hee
          simp only [Option.some.injEq] at hs
          subst hs
          simp only [holds] at ho
          obtain ⟨hn, h0, hlt⟩ := ho
          generalize hev : Act.eval ⟨tmps, []⟩ x = y at hx
          cases hx with
          | d _ _ hd => cases hd
          | own _ _ _ e' xs' sh' hb' hn' hy h1 =>
            rw [hb] at hb'
            cases hb'
            have hcur := hy hn
            obtain ⟨kk, k1, hrow⟩ := r.row b el xs sh hb
            rw [k1] at hcur
            cases kk with
            | box _ => exact hrow.elim
            | nil a =>
              have : xs = [] := hrow
              rw [this] at hn
              simp at hn
              omega
            | row gg cap =>
              simp only [Option.bind_some, Con.cur, Option.some.injEq] at hcur
              subst hcur
              refine wp_pure r rt hd g (y := .pointer (some ⟨gg, i.toNat * (E.T el).size + 0, none⟩)) ?_ (.ep _ _ _ _ gg el xs sh hb (by omega) (fun _ => ⟨cap, k1⟩))
              have hlt2 : 0 ≤ i ∧ i < (n : Int) := by omega
              simp only [execOp, hop, Instr.indexAt, hev2, asIntOf, Sem.run_bind, Sem.run_pure, Result.andThen_ok, run_underlying tok.und, hev, hlt2, and_self, if_true, Sem.run_ite, tok2.sizeOf, add_mk, Nat.zero_add, Nat.add_zero]
        · cases hs
  · rename_i n el cs k i hk he hi
    rw [he] at hx
    rw [hi] at hix
    have hev2 := hix.v_inv
    obtain ⟨ti, dd, z, tok⟩ := ht.at_ (ne_of_kind (by rw [hk]; simp) : E.T t ≠ _)
    obtain ⟨rfl, hes, hts⟩ := tok.array_ hk
    obtain ⟨ti2, dd2, z2, tok2⟩ := ht.at_ (ne_of_size hes)
    split at hs
    · rename_i c os'
      simp only [Option.some.injEq] at hs
      subst hs
      simp only [holds] at ho
      obtain ⟨h0, hlt, hc, hcl⟩ := ho
      generalize hev : Act.eval ⟨tmps, []⟩ x = y at hx
      cases hx with
      | d _ _ hd1 => cases hd1 with
        | dp _ gg off f f1 f2 =>
          have hget : ∀ j x, c[j]? = some x → cs[i.toNat * (E.T el).size + j]? = some x := by
            intro j x hj
            rw [← hc, List.getElem?_take] at hj
            split at hj
            · rwa [List.getElem?_drop] at hj
            · cases hj
          refine wp_pure r rt hd g (y := .pointer (some ⟨gg, off + i.toNat * (E.T el).size, none⟩)) ?_ (.d _ _ (.dp _ gg (off + i.toNat * (E.T el).size) (fun j => f (i.toNat * (E.T el).size + j)) (fun j x hj => ?_) (fun j x hj => ?_)))
          · have hlt2 : 0 ≤ i ∧ i < (n : Int) := by omega
            simp only [execOp, hop, Instr.indexAt, hev2, asIntOf, Sem.run_bind, Sem.run_pure, Result.andThen_ok, run_underlying tok.und, hev, Instr.sureAddr, hlt2, and_self, if_true, Sem.run_ite, tok2.sizeOf, add_mk]
          · rw [Nat.add_assoc]
            exact f1 _ x (hget j x hj)
          · exact f2 _ x (hget j x hj)
    · cases hs
  · cases hs

theorem op_index (ht : TabOK E) (r : Rel E h β S w) (rt : RelTS E.T h β w S ts tmps) (hd : dstOk tmps.size o.dst = true) {t : TypeId} {x ix : Operand} (hop : o.op = .index t x ix)
    (hs : stepOp (mk E) o ts h os = some out) (ho : holds out.o) (g : Goal E h β S w tmps out K) : o.wp E.P ⟨tmps, []⟩ w K Q := by
  have hx := ev_ok (ds := []) r rt x
  have hix := ev_ok (ds := []) r rt ix
  simp only [stepOp, stepOpG, hop, mk_T, mk_G, mk_P] at hs
  split at hs
  · rename_i n el cs k i hk he hi
    rw [he] at hx
    rw [hi] at hix
    have hev2 := hix.v_inv
    obtain ⟨ti, dd, z, tok⟩ := ht.at_ (ne_of_kind (by rw [hk]; simp) : E.T t ≠ _)
    obtain ⟨rfl, hes, hts⟩ := tok.array_ hk
    obtain ⟨ti2, dd2, z2, tok2⟩ := ht.at_ (ne_of_size hes)
    split at hs
    · rename_i c os'
      split at hs
      · rename_i res hm
        simp only [Option.some.injEq] at hs
        subst hs
        simp only [holds] at ho
        obtain ⟨h0, hlt, hc, hcl⟩ := ho
        obtain ⟨vs, hev, hvl, hv1, hvr⟩ := hx.agg_inv
        have hle : i.toNat * (E.T el).size + (E.T el).size ≤ vs.length := by
          rw [← hvl]
          have : c.length ≤ cs.length - i.toNat * (E.T el).size := by rw [← hc]; simp; omega
          omega
        have hrun := run_part tok2 w vs (i.toNat * (E.T el).size) hle
        have hpw : PW (RelC E.T h β w S) c ((vs.drop (i.toNat * (E.T el).size)).take (E.T el).size) := by
          rw [← hc]
          exact ((PW.drop ⟨hvl, fun i a b ha hb => ⟨hvr i a b ha hb, hv1 b (List.mem_of_getElem? hb)⟩⟩ _)).take _
        refine wp_pure r rt hd g (y := mkVal (E.T el) ((vs.drop (i.toNat * (E.T el).size)).take (E.T el).size)) ?_ (mkv_rel hm hpw)
        have hlt2 : 0 ≤ i ∧ i < (n : Int) := by omega
        simp only [execOp, hop, Instr.index, hev2, asIntOf, Sem.run_bind, Sem.run_pure, Result.andThen_ok, run_underlying tok.und, hev, hlt2, and_self, if_true, Sem.run_ite, tok2.sizeOf, hrun]
      · cases hs
    · cases hs
  · rename_i s k i hk he hi
    rw [he] at hx
    rw [hi] at hix
    have hev := hx.v_inv
    have hev2 := hix.v_inv
    obtain ⟨ti, dd, z, tok⟩ := ht.at_ (ne_of_kind (by rw [hk]; simp) : E.T t ≠ _)
    have := tok.str_ hk
    subst this
    split at hs
    · rename_i n os'
      simp only [Option.some.injEq] at hs
      subst hs
      simp only [holds] at ho
      obtain ⟨h0, hb⟩ := ho
      refine wp_pure r rt hd g (y := .int .u8 n) ?_ (relV_int _ _)
      cases hq : s[i.toNat]? with
      | none => simp [hq] at hb
      | some b =>
        simp only [hq, Option.map_some, Option.some.injEq] at hb
        simp only [execOp, hop, Instr.index, hev2, asIntOf, Sem.run_bind, Sem.run_pure, Result.andThen_ok, run_underlying tok.und, hev, h0, if_true, hq, hb]
    · cases hs
  · cases hs

end
end Go.AM

namespace Go.AM
open Go.RowKit
set_option linter.unusedSimpArgs false
set_option linter.unusedVariables false

section
variable {E : Env0} {h : Heap} {β : List Con} {S : Addr → Prop} {w : World} {tmps : Array Value} {ts : TS} {K : Act → World → Prop} {Q : Exit → Act → World → Prop} {o : Oper} {os : List Orc} {out : Out}

theorem op_move (ht : TabOK E) (r : Rel E h β S w) (rt : RelTS E.T h β w S ts tmps) (hd : dstOk tmps.size o.dst = true) {x : Operand} (hop : o.op = .move x ∨ o.op = .assign x)
    (hs : stepOp (mk E) o ts h os = some out) (ho : holds out.o) (g : Goal E h β S w tmps out K) : o.wp E.P ⟨tmps, []⟩ w K Q := by
  have hx := ev_ok (ds := []) r rt x
  rcases hop with hop | hop <;>
  · simp only [stepOp, stepOpG, hop, mk_T, mk_G, Option.some.injEq] at hs
    subst hs
    exact wp_pure r rt hd g (by simp only [execOp, hop, Sem.run_pure]) hx

theorem op_pick (ht : TabOK E) (r : Rel E h β S w) (rt : RelTS E.T h β w S ts tmps) (hd : dstOk tmps.size o.dst = true) {c a b : Operand} (hop : o.op = .pick c a b)
    (hs : stepOp (mk E) o ts h os = some out) (ho : holds out.o) (g : Goal E h β S w tmps out K) : o.wp E.P ⟨tmps, []⟩ w K Q := by
  have hc := ev_ok (ds := []) r rt c
  have ha := ev_ok (ds := []) r rt a
  have hb := ev_ok (ds := []) r rt b
  have run : ∀ t, Act.eval ⟨tmps, []⟩ c = .bool t → (execOp (Act.eval ⟨tmps, []⟩) o).run E.P w = .ok (.value (if t then Act.eval ⟨tmps, []⟩ a else Act.eval ⟨tmps, []⟩ b)) w := by
    intro t he
    simp only [execOp, hop, he, asBool, Sem.run_bind, Sem.run_pure, Result.andThen_ok]
  simp only [stepOp, stepOpG, hop, mk_T, mk_G] at hs
  split at hs
  · rename_i t he
    simp only [Option.some.injEq] at hs
    subst hs
    rw [he] at hc
    refine wp_pure r rt hd g (run t hc.bl_inv) ?_
    cases t
    · exact hb
    · exact ha
  · rename_i t he
    rw [he] at hc
    split at hs
    · rename_i x y hx hy
      simp only [Option.some.injEq] at hs
      subst hs
      refine wp_pure r rt hd g (run t hc.v_inv) ?_
      rw [ha.bool_inv hx, hb.bool_inv hy]
      cases t <;> exact relV_bool _
    · split at hs
      · rename_i d os'
        simp only [Option.some.injEq] at hs
        subst hs
        simp only [holds] at ho
        subst ho
        refine wp_pure r rt hd g (run t hc.v_inv) ?_
        cases t
        · exact hb
        · exact ha
      · cases hs
  · cases hs

theorem op_nilCheck (ht : TabOK E) (r : Rel E h β S w) (rt : RelTS E.T h β w S ts tmps) (hd : dstOk tmps.size o.dst = true) {x : Operand} (hop : o.op = .nilCheck x)
    (hs : stepOp (mk E) o ts h os = some out) (ho : holds out.o) (g : Goal E h β S w tmps out K) : o.wp E.P ⟨tmps, []⟩ w K Q := by
  have hx := ev_ok (ds := []) r rt x
  simp only [stepOp, stepOpG, hop, mk_T, mk_G] at hs
  split at hs
  · rename_i b off he
    simp only [Option.some.injEq] at hs
    subst hs
    rw [he] at hx
    generalize hev : Act.eval ⟨tmps, []⟩ x = y at hx
    refine wp_pure r rt hd g (y := y) ?_ hx
    cases hx with
    | d _ _ hd => cases hd
    | p => simp only [execOp, hop, hev, Sem.run_pure]
  · rename_i cs he
    simp only [Option.some.injEq] at hs
    subst hs
    rw [he] at hx
    generalize hev : Act.eval ⟨tmps, []⟩ x = y at hx
    refine wp_pure r rt hd g (y := y) ?_ hx
    cases hx with
    | d _ _ hd => cases hd with | dp => simp only [execOp, hop, hev, Sem.run_pure]
  · rename_i b n i off he
    simp only [Option.some.injEq] at hs
    subst hs
    rw [he] at hx
    generalize hev : Act.eval ⟨tmps, []⟩ x = y at hx
    refine wp_pure r rt hd g (y := y) ?_ hx
    cases hx with
    | d _ _ hd => cases hd
    | ep => simp only [execOp, hop, hev, Sem.run_pure]
  · rename_i f caps he
    simp only [Option.some.injEq] at hs
    subst hs
    rw [he] at hx
    generalize hev : Act.eval ⟨tmps, []⟩ x = y at hx
    refine wp_pure r rt hd g (y := y) ?_ hx
    cases hx with
    | d _ _ hd => cases hd
    | fn => simp only [execOp, hop, hev, Sem.run_pure]
  · cases hs

theorem op_extract (ht : TabOK E) (r : Rel E h β S w) (rt : RelTS E.T h β w S ts tmps) (hd : dstOk tmps.size o.dst = true) {x : Operand} {i : Nat} (hop : o.op = .extract x i)
    (hs : stepOp (mk E) o ts h os = some out) (ho : holds out.o) (g : Goal E h β S w tmps out K) : o.wp E.P ⟨tmps, []⟩ w K Q := by
  have hx := ev_ok (ds := []) r rt x
  simp only [stepOp, stepOpG, hop, mk_T, mk_G] at hs
  split at hs
  · rename_i vs he
    rw [he] at hx
    split at hs
    · rename_i res hi
      simp only [Option.some.injEq] at hs
      subst hs
      obtain ⟨ys, hev, hl, hv⟩ := hx.tup_inv
      have hil := (List.getElem?_eq_some_iff.1 hi).1
      have hy : ys[i]? = some (ys[i]'(by rw [← hl]; exact hil)) := List.getElem?_eq_getElem _
      refine wp_pure r rt hd g ?_ (hv i _ _ hi hy)
      have : ys.toArray[i]? = some (ys[i]'(by rw [← hl]; exact hil)) := by rw [List.getElem?_toArray]; exact hy
      simp only [execOp, hop, hev, Instr.extract, this, Sem.run_bind, Sem.run_pure, Result.andThen_ok]
    · cases hs
  · cases hs

theorem op_makeFunc (ht : TabOK E) (r : Rel E h β S w) (rt : RelTS E.T h β w S ts tmps) (hd : dstOk tmps.size o.dst = true) {f : FuncId} {first caps : Array Operand} (hop : o.op = .makeFunc (.func f) first caps)
    (hs : stepOp (mk E) o ts h os = some out) (ho : holds out.o) (g : Goal E h β S w tmps out K) : o.wp E.P ⟨tmps, []⟩ w K Q := by
  simp only [stepOp, stepOpG, hop, mk_T, mk_G] at hs
  split at hs
  · rename_i hf
    simp only [Option.some.injEq] at hs
    subst hs
    have hfe : first = #[] := by apply Array.ext'; exact hf
    refine wp_pure r rt hd g (y := .func (.func f) #[] (caps.toList.map (Act.eval ⟨tmps, []⟩)).toArray) ?_ (.fn f _ _ (by simp) (fun i x y hx hy => ?_))
    · simp only [execOp, hop, Instr.makeFunc, Sem.run_bind, Sem.run_pure, Result.andThen_ok, hfe, Array.map_empty]
      congr 3
      apply Array.ext'
      simp
    · simp only [List.getElem?_map, Option.map_eq_some_iff] at hx hy
      obtain ⟨p, h1, rfl⟩ := hx
      obtain ⟨q, h2, rfl⟩ := hy
      rw [h1] at h2
      cases h2
      exact ev_ok r rt _
  · cases hs

theorem op_convert (ht : TabOK E) (r : Rel E h β S w) (rt : RelTS E.T h β w S ts tmps) (hd : dstOk tmps.size o.dst = true) {s t : TypeId} {x : Operand} (hop : o.op = .convert s t x)
    (hs : stepOp (mk E) o ts h os = some out) (ho : holds out.o) (g : Goal E h β S w tmps out K) : o.wp E.P ⟨tmps, []⟩ w K Q := by
  have hx := ev_ok (ds := []) r rt x
  simp only [stepOp, stepOpG, hop, mk_T, mk_G] at hs
  split at hs
  · rename_i k k' a hk he hle
    have hle := Nat.le_of_ble_eq_true hle
    split at hs
    · simp only [Option.some.injEq] at hs
      subst hs
      simp only [holds] at ho
      rw [he] at hx
      obtain ⟨ti, dd, z, tok⟩ := ht.at_ (ne_of_kind (by rw [hk]; simp) : E.T t ≠ _)
      have := tok.int_ hk
      subst this
      obtain ⟨ti2, dd2, z2, tok2⟩ := ht.at_ (ne_of_size (by omega) : E.T s ≠ _)
      refine wp_pure r rt hd g ?_ (relV_int _ _)
      simp only [execOp, hop, convert, Sem.run_bind, run_underlying tok2.und, run_underlying tok.und, Result.andThen_ok, hx.v_inv, Conv.intToInt, Sem.run_pure, ho]
    · cases hs
  · cases hs

theorem op_unop (ht : TabOK E) (r : Rel E h β S w) (rt : RelTS E.T h β w S ts tmps) (hd : dstOk tmps.size o.dst = true) {u : UnOp} {t : TypeId} {x : Operand} (hop : o.op = .unOp u t x)
    (hs : stepOp (mk E) o ts h os = some out) (ho : holds out.o) (g : Goal E h β S w tmps out K) : o.wp E.P ⟨tmps, []⟩ w K Q := by
  have hx := ev_ok (ds := []) r rt x
  cases u with
  | not =>
    simp only [stepOp, stepOpG, hop, mk_T, mk_G] at hs
    split at hs
    · rename_i b he
      simp only [Option.some.injEq] at hs
      subst hs
      rw [he] at hx
      exact wp_pure r rt hd g (y := .bool (!b)) (by simp only [execOp, hop, hx.bl_inv, Op.unary, Sem.run_bind, Sem.run_pure, Result.andThen_ok]) (.d _ _ (.bl _))
    · rename_i b he
      simp only [Option.some.injEq] at hs
      subst hs
      rw [he] at hx
      exact wp_pure r rt hd g (y := .bool (!b)) (by simp only [execOp, hop, hx.v_inv, Op.unary, Sem.run_bind, Sem.run_pure, Result.andThen_ok]) (relV_bool _)
    · cases hs
  | neg =>
    simp only [stepOp, stepOpG, hop, mk_T, mk_G] at hs
    split at hs
    · rename_i k a n os' he
      simp only [Option.some.injEq] at hs
      subst hs
      simp only [holds] at ho
      rw [he] at hx
      have hw : k.wrap (0 - a) = n := by rw [Int.zero_sub]; exact ho
      exact wp_pure r rt hd g (y := .int k n) (by simp only [execOp, hop, hx.v_inv, Op.unary, Op.intArith, Sem.run_bind, Sem.run_pure, Result.andThen_ok, hw]) (relV_int _ _)
    · cases hs
  | _ => simp [stepOp, stepOpG, hop] at hs

theorem op_len (ht : TabOK E) (r : Rel E h β S w) (rt : RelTS E.T h β w S ts tmps) (hd : dstOk tmps.size o.dst = true) {args : Array Operand} {tys : Array TypeId} (hop : o.op = .call { callee := .builtin .len, args := args, argTypes := tys })
    (hs : stepOp (mk E) o ts h os = some out) (ho : holds out.o) (g : Goal E h β S w tmps out K) : o.wp E.P ⟨tmps, []⟩ w K Q := by
  simp only [stepOp, stepOpG, hop, mk_T, mk_G] at hs
  split at hs
  · rename_i x t hax hat
    have hae : args = #[x] := by apply Array.ext'; exact hax
    have hte : tys = #[t] := by apply Array.ext'; exact hat
    subst hae
    subst hte
    have hx := ev_ok (ds := []) r rt x
    split at hs
    · rename_i xs hk he
      simp only [Option.some.injEq] at hs
      subst hs
      rw [he] at hx
      obtain ⟨ti, dd, z, tok⟩ := ht.at_ (ne_of_kind (by rw [hk]; simp) : E.T t ≠ _)
      obtain ⟨rfl, _⟩ := tok.slice_ hk
      generalize hev : Act.eval ⟨tmps, []⟩ x = y at hx
      cases hx with
      | d _ _ hd1 => cases hd1 with
        | sl _ a cap gg off size f _ _ _ _ _ _ =>
          refine wp_pure r rt hd g (y := .int .i64 xs.length) ?_ (relV_int _ _)
          simp [execOp, hop, resolve, invoke, builtin, Builtin.len_, run_underlying tok.und, hev, goInt]
    · rename_i hk he
      simp only [Option.some.injEq] at hs
      subst hs
      rw [he] at hx
      obtain ⟨ti, dd, z, tok⟩ := ht.at_ (ne_of_kind (by rw [hk]; simp) : E.T t ≠ _)
      obtain ⟨rfl, _⟩ := tok.slice_ hk
      generalize hev : Act.eval ⟨tmps, []⟩ x = y at hx
      cases hx with
      | d _ _ hd => cases hd
      | nl a =>
        refine wp_pure r rt hd g (y := .int .i64 0) ?_ (relV_int _ _)
        simp [execOp, hop, resolve, invoke, builtin, Builtin.len_, run_underlying tok.und, hev, goInt]
    · rename_i b n hk he
      rw [he] at hx
      obtain ⟨ti, dd, z, tok⟩ := ht.at_ (ne_of_kind (by rw [hk]; simp) : E.T t ≠ _)
      obtain ⟨rfl, _⟩ := tok.slice_ hk
      cases hb : h[b]? with
      | none => simp [hb] at hs
      | some B =>
        cases B with
        | box cs => simp [hb] at hs
        | row e xs sh =>
          simp only [hb, Option.some.injEq] at hs
          subst hs
          simp only [holds] at ho
          generalize hev : Act.eval ⟨tmps, []⟩ x = y at hx
          cases hx with
          | d _ _ hd => cases hd
          | own _ _ _ e' xs' sh' hb' hn' hy h1 =>
            rw [hb] at hb'
            cases hb'
            have hcur := hy ho
            obtain ⟨kk, k1, hrow⟩ := r.row b e xs sh hb
            rw [k1] at hcur
            refine wp_pure r rt hd g (y := .int .i64 n) ?_ (relV_int _ _)
            cases kk with
            | box _ => exact hrow.elim
            | nil a =>
              have hx0 : xs = [] := hrow
              rw [hx0] at ho
              simp only [List.length_nil] at ho
              subst ho
              simp only [Option.bind_some, Con.cur, Option.some.injEq] at hcur
              subst hcur
              simp [execOp, hop, resolve, invoke, builtin, Builtin.len_, run_underlying tok.und, hev, goInt]
            | row gg cap =>
              simp only [Option.bind_some, Con.cur, Option.some.injEq] at hcur
              subst hcur
              simp [execOp, hop, resolve, invoke, builtin, Builtin.len_, run_underlying tok.und, hev, goInt]
    · rename_i s hk he
      simp only [Option.some.injEq] at hs
      subst hs
      rw [he] at hx
      obtain ⟨ti, dd, z, tok⟩ := ht.at_ (ne_of_kind (by rw [hk]; simp) : E.T t ≠ _)
      have := tok.str_ hk
      subst this
      refine wp_pure r rt hd g (y := .int .i64 s.size) ?_ (relV_int _ _)
      simp [execOp, hop, resolve, invoke, builtin, Builtin.len_, run_underlying tok.und, hx.v_inv, goInt]
    · cases hs
  · cases hs


theorem run_sliceBound {P : Program} (w : World) (k : IntKind) (i : Int) (y : Nat) (c : BoundsCode) (h0 : 0 ≤ i) (h1 : i ≤ y) : (Instr.sliceBound (.int k i) y c).run P w = .ok i.toNat w := by
  simp [Instr.sliceBound, asIntOf, h0, h1]

theorem op_slice (ht : TabOK E) (r : Rel E h β S w) (rt : RelTS E.T h β w S ts tmps) (hd : dstOk tmps.size o.dst = true) {t : TypeId} {x : Operand} {lo hi mx : Option Operand} (hop : o.op = .slice t x lo hi mx)
    (hs : stepOp (mk E) o ts h os = some out) (ho : holds out.o) (g : Goal E h β S w tmps out K) : o.wp E.P ⟨tmps, []⟩ w K Q := by
  have hx := ev_ok (ds := []) r rt x
  simp only [stepOp, stepOpG, hop, mk_T, mk_G] at hs
  split at hs
  · rename_i el xs hk he
    rw [he] at hx
    split at hs
    · rename_i l u hlo hhi
      simp only [Option.some.injEq] at hs
      subst hs
      simp only [holds] at ho
      obtain ⟨h0, hlu, hu, hsize⟩ := ho
      obtain ⟨ti, dd, z, tok⟩ := ht.at_ (ne_of_kind (by rw [hk]; simp) : E.T t ≠ _)
      obtain ⟨rfl, hes⟩ := tok.slice_ hk
      obtain ⟨ti2, dd2, z2, tok2⟩ := ht.at_ (ne_of_size hes)
      generalize hev : Act.eval ⟨tmps, []⟩ x = y at hx
      cases hx with
      | d _ _ hd1 => cases hd1 with
        | sl _ a cap gg off size f f1 f2 f3 f4 f5 f6 =>
          have hbounds : (Instr.sliceBounds true xs.length cap (lo.map (Act.eval ⟨tmps, []⟩)) (hi.map (Act.eval ⟨tmps, []⟩)) none).run E.P w = .ok (l.toNat, u.toNat, cap) w := by
            have fact : ∀ (b : Operand) (n : Int), (match ev E.G ts b with | .v (.int _ i) => some i | _ => none) = some n → ∃ k, Act.eval ⟨tmps, []⟩ b = .int k n := by
              intro b n hb
              have hv := ev_ok (ds := []) r rt b
              split at hb
              · rename_i k i hbe
                cases hb
                rw [hbe] at hv
                exact ⟨k, hv.v_inv⟩
              · cases hb
            cases hi with
            | none =>
              simp only [Option.some.injEq] at hhi
              cases lo with
              | none =>
                simp only [Option.some.injEq] at hlo
                simp [Instr.sliceBounds, ← hlo, ← hhi]
              | some b =>
                obtain ⟨k, hb⟩ := fact b l hlo
                have := run_sliceBound (P := E.P) w k l xs.length .sliceB h0 (by omega)
                simp [Instr.sliceBounds, ← hhi, hb, this]
            | some c =>
              obtain ⟨k', hc⟩ := fact c u hhi
              have h1 := run_sliceBound (P := E.P) w k' u cap .sliceAcap (by omega) (by omega)
              cases lo with
              | none =>
                simp only [Option.some.injEq] at hlo
                simp [Instr.sliceBounds, ← hlo, hc, h1]
              | some b =>
                obtain ⟨k, hb⟩ := fact b l hlo
                have := run_sliceBound (P := E.P) w k l u.toNat .sliceB h0 (by omega)
                simp [Instr.sliceBounds, hb, hc, h1, this]
          have hlen : ((xs.take u.toNat).drop l.toNat).length = u.toNat - l.toNat := by simp; omega
          have hget : ∀ (i : Nat) (c : List AV), ((xs.take u.toNat).drop l.toNat)[i]? = some c → xs[l.toNat + i]? = some c := by
            intro i c hc
            rw [List.getElem?_drop, List.getElem?_take] at hc
            split at hc
            · exact hc
            · cases hc
          have hne : ((xs.take u.toNat).drop l.toNat) ≠ [] → xs ≠ [] ∧ l.toNat < u.toNat := by
            intro hn
            refine ⟨fun e => hn (by simp [e]), ?_⟩
            rcases Nat.lt_or_ge l.toNat u.toNat with h1 | h1
            · exact h1
            · exact absurd (List.eq_nil_of_length_eq_zero (by omega)) hn
          have hsz : xs ≠ [] → size = (E.T el).size := by
            intro hn
            obtain ⟨c, cs, rfl⟩ := List.exists_cons_of_ne_nil hn
            rw [← f4 0 c rfl]
            exact hsize c (by simp)
          refine wp_pure r rt hd g (y := .slice (if cap = l.toNat then a else a.map (·.add (l.toNat * (E.T el).size))) (u.toNat - l.toNat) (cap - l.toNat)) ?_ (.d _ _ ?_)
          · simp only [execOp, hop, Instr.sliceAt, Sem.run_bind, run_underlying tok.und, Result.andThen_ok, Instr.slice, hev, hbounds, tok2.sizeOf, Sem.run_pure, Option.map_none]
          · rw [← hlen]
            refine .sl _ _ _ gg (off + l.toNat * (E.T el).size) size (fun k => f (l.toNat * size + k)) ?_ (by omega) (by omega) (fun i c hc => f4 _ c (hget i c hc)) (fun i j c x hi' hj => ?_) (fun i j c x hi' hj => ?_)
            · intro hn
              obtain ⟨hn1, hn2⟩ := hne hn
              rw [if_neg (by omega), f1 hn1, Option.map_some, add_mk]
            · have hn1 : xs ≠ [] := fun e => by have := hget i c hi'; rw [e] at this; simp at this
              have := f5 _ j c x (hget i c hi') hj
              rw [← hsz hn1]
              rw [show off + l.toNat * size + (i * size + j) = off + ((l.toNat + i) * size + j) by rw [Nat.add_mul]; omega, show l.toNat * size + (i * size + j) = (l.toNat + i) * size + j by rw [Nat.add_mul]; omega]
              exact this
            · have := f6 _ j c x (hget i c hi') hj
              rw [show l.toNat * size + (i * size + j) = (l.toNat + i) * size + j by rw [Nat.add_mul]; omega]
              exact this
    · cases hs
  · rename_i el b n hk he
    rw [he] at hx
    split at hs
    · rename_i e' xs sh k i hb hlo
      split at hs
      · rename_i hee
        subst hee
        simp only [Option.some.injEq] at hs
        subst hs
        simp only [holds] at ho
        obtain ⟨hn, h0, hle⟩ := ho
        obtain ⟨ti, dd, z, tok⟩ := ht.at_ (ne_of_kind (by rw [hk]; simp) : E.T t ≠ _)
        obtain ⟨rfl, hes⟩ := tok.slice_ hk
        obtain ⟨ti2, dd2, z2, tok2⟩ := ht.at_ (ne_of_size hes)
        cases lo with
        | none => simp at hlo
        | some c =>
          simp only [Option.map_some, Option.some.injEq] at hlo
          have hcv := ev_ok (ds := []) r rt c
          rw [hlo] at hcv
          have hc' := hcv.v_inv
          generalize hev : Act.eval ⟨tmps, []⟩ x = y at hx
          cases hx with
          | d _ _ hd1 => cases hd1
          | own _ _ _ e2 xs2 sh2 hb2 _ hy _ =>
            rw [hb] at hb2
            cases hb2
            obtain ⟨kk, hkk, hrow⟩ := r.row b el xs sh hb
            have hcur := hy hn
            rw [hkk] at hcur
            cases kk with
            | box g => exact hrow.elim
            | nil a =>
              have hx0 : xs = [] := hrow
              simp only [Option.bind_some, Con.cur, Option.some.injEq] at hcur
              rw [← hcur] at hev
              have hn0 : n = 0 := by rw [hn, hx0]; rfl
              have hi0 : i.toNat = 0 := by omega
              have hbd : (Instr.sliceBounds true 0 0 (some (.int k i)) none none).run E.P w = .ok (0, 0, 0) w := by
                have := run_sliceBound (P := E.P) w k i 0 .sliceB h0 (by omega)
                simp [Instr.sliceBounds, this, hi0]
              refine wp_pure r rt hd g (y := .slice a (n - i.toNat) 0) ?_ (.os b n i.toNat a 0 el xs sh hb (by omega) hle (fun _ hl => by omega))
              simp only [execOp, hop, Instr.sliceAt, Sem.run_bind, run_underlying tok.und, Result.andThen_ok, Instr.slice, hev, Option.map_none, Option.map_some, hc', hbd, tok2.sizeOf, Sem.run_pure]
              simp [hn0]
            | row gg cap =>
              simp only [Option.bind_some, Con.cur, Option.some.injEq] at hcur
              rw [← hcur] at hev
              obtain ⟨_, _, hcap, _⟩ := hrow
              have hbd : (Instr.sliceBounds true n cap (some (.int k i)) none none).run E.P w = .ok (i.toNat, n, cap) w := by
                have := run_sliceBound (P := E.P) w k i n .sliceB h0 (by omega)
                simp [Instr.sliceBounds, this]
              refine wp_pure r rt hd g (y := .slice (if cap = i.toNat then some ⟨gg, 0, none⟩ else (some (⟨gg, 0, none⟩ : Addr)).map (·.add (i.toNat * (E.T el).size))) (n - i.toNat) (cap - i.toNat)) ?_ (.os b n i.toNat _ _ el xs sh hb (by omega) hle (fun _ hl => ⟨gg, cap, hkk, ?_⟩))
              · simp only [execOp, hop, Instr.sliceAt, Sem.run_bind, run_underlying tok.und, Result.andThen_ok, Instr.slice, hev, Option.map_none, Option.map_some, hc', hbd, tok2.sizeOf, Sem.run_pure]
              · rw [if_neg (by omega), Option.map_some, add_mk, Nat.zero_add]
      · cases hs
    · cases hs
  · rename_i el m hk
    split at hs
    · rename_i k0 k1 hhi hm hln
      simp only [Option.some.injEq] at hs
      subst hs
      obtain ⟨ti, dd, z, tok⟩ := ht.at_ (ne_of_kind (by rw [hk]; simp) : E.T t ≠ _)
      obtain ⟨rfl, hes⟩ := tok.slice_ hk
      obtain ⟨ti2, dd2, z2, tok2⟩ := ht.at_ (ne_of_size hes)
      have hmv := ev_ok (ds := []) r rt m
      rw [hm] at hmv
      have hm' := hmv.v_inv
      cases hi with
      | none => simp at hhi
      | some c =>
        simp only [Option.map_some, Option.some.injEq] at hhi
        have hcv := ev_ok (ds := []) r rt c
        rw [hhi] at hcv
        have hc' := hcv.v_inv
        have hsl : ∃ a n cap, Act.eval ⟨tmps, []⟩ x = .slice a n cap := by
          generalize Act.eval ⟨tmps, []⟩ x = y at hx
          cases hav : ev E.G ts x with
          | sl xs => rw [hav] at hx; cases hx with | d _ _ hd1 => cases hd1 with | sl _ a cap _ _ _ _ _ _ _ _ _ _ => exact ⟨a, _, cap, rfl⟩
          | nl => rw [hav] at hx; cases hx with
            | d _ _ hd1 => cases hd1
            | nl a => exact ⟨a, 0, 0, rfl⟩
          | _ => rw [hav] at hln; simp [sliceLike] at hln
        obtain ⟨a, n, cap, hev⟩ := hsl
        have hb : (Instr.sliceBounds true n cap (none : Option Value) (some (.int k0 0)) (some (.int k1 0))).run E.P w = .ok (0, 0, 0) w := by
          have e1 := run_sliceBound (P := E.P) w k1 0 cap .slice3Acap (by omega) (by omega)
          have e2 := run_sliceBound (P := E.P) w k0 0 0 .slice3B (by omega) (by omega)
          simp only [Int.toNat_zero] at e1 e2
          simp [Instr.sliceBounds, e1, e2]
        refine wp_pure r rt hd g (y := .slice a 0 0) ?_ (.nl a)
        simp only [execOp, hop, Instr.sliceAt, Sem.run_bind, run_underlying tok.und, Result.andThen_ok, Instr.slice, hev, Option.map_none, Option.map_some, hc', hm', hb, tok2.sizeOf, Sem.run_pure]
        simp
    · cases hs
  · cases hs

end
end Go.AM

namespace Go.AM
open Go.RowKit
set_option linter.unusedSimpArgs false
set_option linter.unusedVariables false

section
variable {E : Env0} {h : Heap} {β : List Con} {S : Addr → Prop} {w : World} {tmps : Array Value} {ts : TS} {K : Act → World → Prop} {Q : Exit → Act → World → Prop} {o : Oper} {os : List Orc} {out : Out}

theorem scal_rel {T : TypeId → TI} {x : AV} {v y : Value} (hr : RelV T h β w S x y) (hs : scal x = some v) : y = v := by
  unfold scal at hs
  split at hs
  · cases hs; exact hr.v_inv
  · cases hs; exact hr.bl_inv
  · cases hs

theorem scals_rel {T : TypeId → TI} : ∀ (cs : List AV) (vs xs : List Value), cs.length = vs.length → (∀ (i : Nat) (x : AV) (y : Value), cs[i]? = some x → vs[i]? = some y → RelV T h β w S x y) → scals cs = some xs → vs = xs
  | [], [], xs, _, _, hs => by cases hs; rfl
  | [], _ :: _, _, hl, _, _ => by simp at hl
  | _ :: _, [], _, hl, _, _ => by simp at hl
  | c :: cs, v :: vs, xs, hl, hr, hs => by
    simp only [scals] at hs
    split at hs
    · rename_i a b h1 h2
      cases hs
      rw [scal_rel (hr 0 c v rfl rfl) h1, scals_rel cs vs b (by simpa using hl) (fun i x y hx hy => hr (i + 1) x y (by simpa using hx) (by simpa using hy)) h2]
    · cases hs

theorem eqGuard_int (P : Program) (op : BinOp) (t : TypeId) (x y : Operand) (k k' : IntKind) (a b : Int) (w : World) : (eqGuard op t x y (.int k a) (.int k' b)).run P w = .ok () w := by
  unfold eqGuard
  split <;> rfl
theorem eqGuard_str (P : Program) (op : BinOp) (t : TypeId) (x y : Operand) (a b : ByteArray) (w : World) : (eqGuard op t x y (.string a) (.string b)).run P w = .ok () w := by
  unfold eqGuard
  split <;> rfl
theorem eqGuard_bool (P : Program) (op : BinOp) (t : TypeId) (x y : Operand) (a b : Bool) (w : World) : (eqGuard op t x y (.bool a) (.bool b)).run P w = .ok () w := by
  unfold eqGuard
  split <;> rfl
theorem eqGuard_agg (P : Program) (op : BinOp) (t : TypeId) (x y : Operand) (a b : Array Value) (w : World) (hg : P.eqGuardType P.depth t = false) : (eqGuard op t x y (.agg a) (.agg b)).run P w = .ok () w := by
  unfold eqGuard
  split <;> simp [hg]

theorem run_equal_bool {P : Program} (w : World) {t : TypeId} (hu : P.underlying t = some .bool) (a b : Bool) : (Op.equal t (.bool a) (.bool b)).run P w = .ok (a == b) w := by
  unfold Op.equal Op.maxDepth
  unfold Op.equalIn
  simp only [Sem.run_bind, run_underlying hu, Result.andThen_ok, Sem.run_pure]

theorem op_binOp (ht : TabOK E) (r : Rel E h β S w) (rt : RelTS E.T h β w S ts tmps) (hd : dstOk tmps.size o.dst = true) {op : BinOp} {t ty : TypeId} {x y : Operand} (hop : o.op = .binOp op t x y ty)
    (hs : stepOp (mk E) o ts h os = some out) (ho : holds out.o) (g : Goal E h β S w tmps out K) : o.wp E.P ⟨tmps, []⟩ w K Q := by
  have hx := ev_ok (ds := []) r rt x
  have hy := ev_ok (ds := []) r rt y
  simp only [stepOp, stepOpG, hop, mk_T, mk_G] at hs
  split at hs
  · rename_i q res os' hb
    simp only [Option.some.injEq] at hs
    subst hs
    simp only [holds] at ho
    unfold binop at hb
    split at hb
    · rename_i k a k' b hxe hye
      rw [hxe] at hx
      rw [hye] at hy
      have hx' := hx.v_inv
      have hy' := hy.v_inv
      split at hb
      · rename_i c hc
        split at hb
        · cases hb
          refine wp_pure r rt hd g ?_ (relV_int _ _)
          unfold shiftop at hc
          have h0 : ¬ b < 0 := by have := ho.1; omega
          split at hc <;> cases hc <;> simp [execOp, hop, hx', hy', eqGuard_int, binOp, Op.shift, h0, ← ho.2]
        · cases hb
      split at hb
      · rename_i hkk
        subst hkk
        split at hb
        · rename_i res' hc
          cases hb
          refine wp_pure r rt hd g (y := .bool res') ?_ (relV_bool _)
          unfold cmpInt at hc
          split at hc <;> cases hc <;> simp [execOp, hop, hx', hy', eqGuard_int, binOp, Op.intCmp]
        · split at hb
          · cases hb
            refine wp_pure r rt hd g ?_ (relV_int _ _)
            simp [execOp, hop, hx', hy', eqGuard_int, binOp, Op.intDiv, ho.1, ho.2]
          · cases hb
            refine wp_pure r rt hd g ?_ (relV_int _ _)
            simp [execOp, hop, hx', hy', eqGuard_int, binOp, Op.intDiv, ho.1, ho.2]
          · split at hb
            · rename_i c hc
              cases hb
              refine wp_pure r rt hd g ?_ (relV_int _ _)
              unfold arith at hc
              split at hc <;> cases hc <;> simp [execOp, hop, hx', hy', eqGuard_int, binOp, Op.intArith, ho]
            · split at hb
              · rename_i c hc
                cases hb
                refine wp_pure r rt hd g ?_ (relV_int _ _)
                unfold bitop at hc
                split at hc <;> cases hc <;> simp [execOp, hop, hx', hy', eqGuard_int, binOp, Op.intBits, ← ho]
              · cases hb
          · cases hb
      · cases hb
    · rename_i a b hxe hye
      rw [hxe] at hx
      rw [hye] at hy
      have hx' := hx.v_inv
      have hy' := hy.v_inv
      split at hb
      · rename_i res' hc
        cases hb
        refine wp_pure r rt hd g (y := .bool res') ?_ (relV_bool _)
        unfold strCmp at hc
        split at hc <;> cases hc <;> simp [execOp, hop, hx', hy', eqGuard_str, binOp, Op.stringOp]
      · cases hb
    · rename_i cs ds hxe hye
      rw [hxe] at hx
      rw [hye] at hy
      obtain ⟨vs, hev, hvl, hv1, hvr⟩ := hx.agg_inv
      obtain ⟨us, heu, hul, hu1, hur⟩ := hy.agg_inv
      split at hb
      · rename_i xs ys hsx hsy
        have e1 := scals_rel cs vs xs hvl hvr hsx
        have e2 := scals_rel ds us ys hul hur hsy
        subst e1
        subst e2
        split at hb
        · rename_i r' heq
          cases hb
          obtain ⟨hg, he⟩ := ho
          rw [mk_P] at hg
          have h1 := eqGuard_agg E.P .eql t x y vs.toArray us.toArray w hg
          have h2 := he w vs us r' rfl heq
          rw [mk_P] at h2
          refine wp_pure r rt hd g (y := .bool r') ?_ (relV_bool _)
          simp [execOp, hop, hev, heu, h1, binOp, h2]
        · rename_i r' heq
          cases hb
          obtain ⟨hg, he⟩ := ho
          rw [mk_P] at hg
          have h1 := eqGuard_agg E.P .neq t x y vs.toArray us.toArray w hg
          have h2 := he w vs us r' rfl heq
          rw [mk_P] at h2
          refine wp_pure r rt hd g (y := .bool (!r')) ?_ (relV_bool _)
          simp [execOp, hop, hev, heu, h1, binOp, h2]
        · cases hb
      · cases hb
    · split at hb
      · rename_i a b hxb hyb
        have hx' := hx.bool_inv hxb
        have hy' := hy.bool_inv hyb
        split at hb
        · rename_i hk
          rw [mk_T] at hk
          cases hb
          obtain ⟨ti, dd, z, tok⟩ := ht.at_ (ne_of_kind (by rw [hk]; simp) : E.T t ≠ _)
          have := tok.bool_ hk
          subst this
          refine wp_pure r rt hd g (y := .bool (a == b)) ?_ (relV_bool _)
          simp [execOp, hop, hx', hy', eqGuard_bool, binOp, run_equal_bool w tok.und]
        · rename_i hk
          rw [mk_T] at hk
          cases hb
          obtain ⟨ti, dd, z, tok⟩ := ht.at_ (ne_of_kind (by rw [hk]; simp) : E.T t ≠ _)
          have := tok.bool_ hk
          subst this
          refine wp_pure r rt hd g (y := .bool (!(a == b))) ?_ (relV_bool _)
          simp [execOp, hop, hx', hy', eqGuard_bool, binOp, run_equal_bool w tok.und]
        · cases hb
      · cases hb
  · cases hs

end
end Go.AM

namespace Go.AM
open Go.RowKit
set_option linter.unusedSimpArgs false
set_option linter.unusedVariables false

section
variable {E : Env0} {h : Heap} {β : List Con} {S : Addr → Prop} {w : World} {tmps : Array Value} {ts : TS} {K : Act → World → Prop} {Q : Exit → Act → World → Prop} {o : Oper} {os : List Orc} {out : Out}

/-- The cells of a slice that is read. -/
theorem list_cells (r : Rel E h β S w) {y : AV} {yv : Value} (hr : RelV E.T h β w S y yv) {ys : List (List AV)} (hl : listOf h y = some ys) (ho : frzO h y) {size : Nat} (hs : ∀ c ∈ ys, c.length = size) (h0 : size ≠ 0) :
    ∃ (A : Option Addr) (cap : Nat) (news : List Value), yv = .slice A ys.length cap ∧ news.length = ys.length * size ∧ (∀ u ∈ news, u.oneCell' = true) ∧
      (0 < ys.length → ∃ g o, A = some ⟨g, o, none⟩ ∧ ∀ j u, news[j]? = some u → w.cell? ⟨g, o + j, none⟩ = some u) ∧
      (∀ (i j : Nat) (c : List AV) (x : AV), ys[i]? = some c → c[j]? = some x → ∃ v, news[i * size + j]? = some v ∧ RelD w S x v) := by
  -- from the data form
  have data : ∀ (S1 : Addr → Prop), RelD w S1 (.sl ys) yv → (∀ x v, RelD w S1 x v → RelD w S1 x v) → ∃ (A : Option Addr) (cap : Nat) (news : List Value), yv = .slice A ys.length cap ∧ news.length = ys.length * size ∧ (∀ u ∈ news, u.oneCell' = true) ∧
      (0 < ys.length → ∃ g o, A = some ⟨g, o, none⟩ ∧ ∀ j u, news[j]? = some u → w.cell? ⟨g, o + j, none⟩ = some u) ∧
      (∀ (i j : Nat) (c : List AV) (x : AV), ys[i]? = some c → c[j]? = some x → ∃ v, news[i * size + j]? = some v ∧ RelD w S1 x v) := by
    intro S1 hd _
    cases hd with
    | sl _ A cap g o size' f f1 f2 f3 f4 f5 f6 =>
      have hsz : ys ≠ [] → size' = size := by
        intro hn
        obtain ⟨c, cs, rfl⟩ := List.exists_cons_of_ne_nil hn
        rw [← f4 0 c rfl]
        exact hs c (by simp)
      have hpos : ∀ k, k < ys.length * size → ∃ (c : List AV) (x : AV), ys[k / size]? = some c ∧ c[k % size]? = some x := by
        intro k hk
        have hk1 : k / size < ys.length := Nat.div_lt_of_lt_mul (by rw [Nat.mul_comm]; exact hk)
        have hc : ys[k / size]? = some ys[k / size] := List.getElem?_eq_getElem hk1
        have hcl : (ys[k / size]).length = size := hs _ (List.getElem_mem hk1)
        have hk2 : k % size < (ys[k / size]).length := by rw [hcl]; exact Nat.mod_lt _ (by omega)
        exact ⟨_, _, hc, List.getElem?_eq_getElem hk2⟩
      have hdm : ∀ k, k / size * size + k % size = k := fun k => by rw [Nat.mul_comm]; exact Nat.div_add_mod k size
      have hfk : ∀ k, k < ys.length * size → S1 ⟨g, o + k, none⟩ ∧ w.cell? ⟨g, o + k, none⟩ = some (f k) ∧ (f k).oneCell' = true := by
        intro k hk
        obtain ⟨c, x, hc, hx⟩ := hpos k hk
        have := f5 _ _ c x hc hx
        rw [hsz (fun e => by rw [e] at hk; simp at hk), hdm k] at this
        exact this
      refine ⟨A, cap, (List.range (ys.length * size)).map f, rfl, by simp, ?_, ?_, ?_⟩
      · intro u hu
        simp only [List.mem_map, List.mem_range] at hu
        obtain ⟨k, hk, rfl⟩ := hu
        exact (hfk k hk).2.2
      · intro hn
        refine ⟨g, o, f1 (fun e => by rw [e] at hn; simp at hn), fun j u hj => ?_⟩
        by_cases hjl : j < ys.length * size
        · simp [hjl] at hj
          subst hj
          exact (hfk j hjl).2.1
        · simp [hjl] at hj
      · intro i j c x hi hj
        have hne : ys ≠ [] := fun e => by rw [e] at hi; simp at hi
        have hil := (List.getElem?_eq_some_iff.1 hi).1
        have hjl := (List.getElem?_eq_some_iff.1 hj).1
        rw [hs c (List.mem_of_getElem? hi)] at hjl
        have hlt : i * size + j < ys.length * size := by
          have : (i + 1) * size ≤ ys.length * size := Nat.mul_le_mul_right _ hil
          rw [Nat.add_mul, Nat.one_mul] at this
          omega
        refine ⟨f (i * size + j), by simp [hlt], ?_⟩
        have := f6 i j c x hi hj
        rwa [hsz hne] at this
  cases y with
  | sl xs =>
    simp only [listOf, Option.some.injEq] at hl
    subst hl
    exact data S (relD_of_d hr trivial) (fun _ _ h => h)
  | nl =>
    simp only [listOf, Option.some.injEq] at hl
    subst hl
    cases hr with
    | d _ _ hd => cases hd
    | nl a => exact ⟨a, 0, [], rfl, by simp, by simp, by simp, by simp⟩
  | own b n =>
    have hro : rowOf h b = some ys := by
      simp only [listOf] at hl
      unfold rowOf
      split at hl
      · rename_i e xs sh hb; simp only [Option.some.injEq] at hl; subst hl; simp [hb]
      · cases hl
    rw [frzO_own, hro] at ho
    obtain ⟨e, sh, hb⟩ := rowOf_some hro
    obtain ⟨k, hk, hrow⟩ := r.row b e ys sh hb
    cases hr with
    | d _ _ hd => cases hd
    | own _ _ _ e' xs' sh' hb' _ hy _ =>
      rw [hb] at hb'
      cases hb'
      have hcur := hy ho
      rw [hk] at hcur
      cases k with
      | box _ => exact hrow.elim
      | nil a =>
        have hx : ys = [] := hrow
        subst hx
        simp only [List.length_nil] at ho
        subst ho
        simp only [Option.bind_some, Con.cur, Option.some.injEq] at hcur
        exact ⟨a, 0, [], hcur.symm, by simp, by simp, by simp, by simp⟩
      | row g cap =>
        simp only [Option.bind_some, Con.cur, Option.some.injEq] at hcur
        obtain ⟨cs, q1, q2, q3, q4, q5, q6, q7⟩ := hrow
        have hsz : ys ≠ [] → (E.T e).size = size := by
          intro hn
          obtain ⟨c, l, rfl⟩ := List.exists_cons_of_ne_nil hn
          rw [← q6 0 c rfl]
          exact hs c (by simp)
        have hpos : ∀ k, k < ys.length * size → ∃ (c : List AV) (x : AV), ys[k / size]? = some c ∧ c[k % size]? = some x := by
          intro k hk
          have hk1 : k / size < ys.length := Nat.div_lt_of_lt_mul (by rw [Nat.mul_comm]; exact hk)
          have hc : ys[k / size]? = some ys[k / size] := List.getElem?_eq_getElem hk1
          have hcl : (ys[k / size]).length = size := hs _ (List.getElem_mem hk1)
          have hk2 : k % size < (ys[k / size]).length := by rw [hcl]; exact Nat.mod_lt _ (by omega)
          exact ⟨_, _, hc, List.getElem?_eq_getElem hk2⟩
        have hdm : ∀ k, k / size * size + k % size = k := fun k => by rw [Nat.mul_comm]; exact Nat.div_add_mod k size
        have hfk : ∀ k, k < ys.length * size → ∃ y, cs[k]? = some y ∧ y.oneCell' = true := by
          intro k hk
          obtain ⟨c, x, hc, hx⟩ := hpos k hk
          obtain ⟨y, y1, _, y3⟩ := q7 _ _ c x hc hx
          rw [hsz (fun e => by rw [e] at hk; simp at hk), hdm k] at y1
          exact ⟨y, y1, y3⟩
        refine ⟨some ⟨g, 0, none⟩, cap, cs.toList.take (ys.length * size), by rw [← hcur, ho], ?_, ?_, ?_, ?_⟩
        · simp only [List.length_take, Array.length_toList]
          rcases Nat.eq_zero_or_pos ys.length with h1 | h1
          · simp [h1]
          · have := hsz (fun e => by rw [e] at h1; simp at h1)
            rw [q5, this]
            have : ys.length * size ≤ cap * size := Nat.mul_le_mul_right _ q2
            omega
        · intro u hu
          obtain ⟨k, hk⟩ := List.getElem?_of_mem hu
          rw [List.getElem?_take] at hk
          split at hk
          · rename_i hlt
            obtain ⟨y, y1, y2⟩ := hfk k hlt
            rw [Array.getElem?_toList, y1] at hk
            cases hk
            exact y2
          · cases hk
        · intro _
          refine ⟨g, 0, rfl, fun j u hj => ?_⟩
          rw [List.getElem?_take] at hj
          split at hj
          · rw [Array.getElem?_toList] at hj
            simp [World.cell?, q1, hj]
          · cases hj
        · intro i j c x hi hj
          have hne : ys ≠ [] := fun e => by rw [e] at hi; simp at hi
          have hil := (List.getElem?_eq_some_iff.1 hi).1
          have hjl := (List.getElem?_eq_some_iff.1 hj).1
          rw [hs c (List.mem_of_getElem? hi)] at hjl
          have hlt : i * size + j < ys.length * size := by
            have : (i + 1) * size ≤ ys.length * size := Nat.mul_le_mul_right _ hil
            rw [Nat.add_mul, Nat.one_mul] at this
            omega
          obtain ⟨y, y1, y2, _⟩ := q7 i j c x hi hj
          rw [hsz hne] at y1
          exact ⟨y, by rw [List.getElem?_take, if_pos hlt, Array.getElem?_toList]; exact y1, y2⟩
  | _ => simp [listOf] at hl

theorem run_append_zero {P : Program} (w : World) (t ty e : TypeId) (i : TypeInfo) (ht : P.underlying t = some (.slice e)) (hi : P.info? e = some i) (A B : Option Addr) (n cap c : Nat) (hn : n ≤ cap) :
    (Builtin.append_ #[t, t] ty #[.slice A n cap, .slice B 0 c]).run P w = .ok (.slice A n cap) w := by
  have hf : (Builtin.firstCells i.size 0 (.slice B 0 c)).run P w = .ok #[] w := by
    cases B with
    | none => simp [Builtin.firstCells]
    | some b => simp [Builtin.firstCells, loadCells, loadCellsFrom]
  cases A with
  | none => simp [Builtin.append_, run_underlying ht, sizeOf, typeInfo, hi, Builtin.lenOf, hn, hf]
  | some a => simp [Builtin.append_, run_underlying ht, sizeOf, typeInfo, hi, Builtin.lenOf, hn, hf, storeCells]


/-- What an append to a row does. -/
theorem append_con {T : TypeId → TI} {P : Program} {i : TypeInfo} {d : TypeDesc} {z : Value} {e t ty : TypeId} (tok : TOk P T e i d z) (hu : P.underlying t = some (.slice e)) (hby : 1 ≤ (T e).bytes)
    {xs ys : List (List AV)} {k : Con} (hrow : RowRel T w S e xs k) (hfree : ∀ g a, k.blk = some g → S a → a.block = g → a.off < xs.length * (T e).size)
    (hlt : ∀ g, k.blk = some g → g < w.heap.size) (hstab : ∀ a, S a → a.block < w.heap.size)
    {cur : Value} (hcur : k.cur xs.length = some cur) {A : Option Addr} {c : Nat} {news : List Value} (hl : news.length = ys.length * (T e).size) (h1 : ∀ u ∈ news, u.oneCell' = true) (hsz : ∀ c ∈ ys, c.length = (T e).size)
    (hA : 0 < ys.length → ∃ g o, A = some ⟨g, o, none⟩ ∧ ∀ j u, news[j]? = some u → w.cell? ⟨g, o + j, none⟩ = some u)
    (hd : ∀ (i j : Nat) (c : List AV) (x : AV), ys[i]? = some c → c[j]? = some x → ∃ v, news[i * (T e).size + j]? = some v ∧ RelD w S x v)
    (hbytes : (xs.length + ys.length) * (T e).bytes ≤ 140737488355328) :
    ∃ k' w' cur', (Builtin.append_ #[t, t] ty #[cur, .slice A ys.length c]).run P w = .ok cur' w' ∧ k'.cur (xs ++ ys).length = some cur' ∧ RowRel T w' S e (xs ++ ys) k' ∧ w.grownBy w' k.blk ∧
      (ys = [] → k' = k) ∧ (∀ g, k'.blk = some g → (k.blk = some g ∨ w.heap.size ≤ g) ∧ g < w'.heap.size) ∧ ∀ a, S a → w'.cell? a = w.cell? a := by
  have hmax : xs.length + ys.length ≤ maxLen := by
    have : (xs.length + ys.length) * 1 ≤ (xs.length + ys.length) * (T e).bytes := Nat.mul_le_mul_left _ hby
    unfold maxLen
    omega
  by_cases hys : ys = []
  · subst hys
    cases k with
    | box _ => exact hrow.elim
    | nil a =>
      have hx : xs = [] := hrow
      subst hx
      simp only [Con.cur, Option.some.injEq] at hcur
      subst hcur
      exact ⟨.nil a, w, _, run_append_zero w t ty e i hu tok.info a A 0 0 c (Nat.le_refl _), rfl, rfl, ⟨rfl, rfl, rfl, Nat.le_refl _, fun _ _ _ => rfl⟩, fun _ => rfl, (fun g hg => by cases hg), fun _ _ => rfl⟩
    | row g cap =>
      have hrow' := hrow
      obtain ⟨cs, q1, q2, q3, q4, q5, q6, q7⟩ := hrow
      simp only [Con.cur, Option.some.injEq] at hcur
      subst hcur
      refine ⟨.row g cap, w, _, run_append_zero w t ty e i hu tok.info _ A xs.length cap c q2, by simp [Con.cur], by simpa using hrow', ⟨rfl, rfl, rfl, Nat.le_refl _, fun _ _ _ => rfl⟩, fun _ => rfl, fun g' hg => ⟨.inl hg, hlt g' hg⟩, fun _ _ => rfl⟩
  · have hpos : 0 < ys.length := List.length_pos_iff.2 hys
    obtain ⟨ga, oa, rfl, hcell⟩ := hA hpos
    have hnews : ∀ j u, news[j]? = some u → w.cell? ((⟨ga, oa, none⟩ : Addr).add j) = some u := fun j u hj => by rw [add_mk]; exact hcell j u hj
    have hl' : news.length = ys.length * i.size := by rw [hl, tok.size]
    -- the cells of the whole row
    have whole : ∀ (w' : World) (cs' : Array Value) (olds : List Value), (∀ a, S a → w'.cell? a = w.cell? a) → olds.length = xs.length * (T e).size →
        (∀ (i j : Nat) (c : List AV) (x : AV), xs[i]? = some c → c[j]? = some x → ∃ v, olds[i * (T e).size + j]? = some v ∧ RelD w S x v ∧ v.oneCell' = true) →
        (∀ c ∈ xs, c.length = (T e).size) → (∀ (k : Nat) (v : Value), (olds ++ news)[k]? = some v → cs'[k]? = some v) →
        (∀ (i : Nat) (c : List AV), (xs ++ ys)[i]? = some c → c.length = (T e).size) ∧
        (∀ (i j : Nat) (c : List AV) (x : AV), (xs ++ ys)[i]? = some c → c[j]? = some x → ∃ y, cs'[i * (T e).size + j]? = some y ∧ RelD w' S x y ∧ y.oneCell' = true) := by
      intro w' cs' olds hS hol hod hxsz hcs
      refine ⟨fun i c hc => ?_, fun i j c x hi hj => ?_⟩
      · rcases List.mem_append.1 (List.mem_of_getElem? hc) with h2 | h2
        · exact hxsz c h2
        · exact hsz c h2
      · by_cases hil : i < xs.length
        · rw [List.getElem?_append_left hil] at hi
          obtain ⟨v, v1, v2, v3⟩ := hod i j c x hi hj
          exact ⟨v, hcs _ v (by rw [List.getElem?_append_left (List.getElem?_eq_some_iff.1 v1).1]; exact v1), v2.mono (fun _ h => h) hS, v3⟩
        · rw [List.getElem?_append_right (by omega)] at hi
          obtain ⟨v, v1, v2⟩ := hd _ j c x hi hj
          refine ⟨v, hcs _ v ?_, v2.mono (fun _ h => h) hS, h1 v (List.mem_of_getElem? v1)⟩
          have he : i * (T e).size = olds.length + (i - xs.length) * (T e).size := by
            rw [hol, ← Nat.add_mul]
            congr 1
            omega
          rw [List.getElem?_append_right (by omega), show i * (T e).size + j - olds.length = (i - xs.length) * (T e).size + j by omega]
          exact v1
    -- the new array
    have grown : ∀ (base : Option Addr) (cap : Nat) (olds : List Value), cur = .slice base xs.length cap → cap < xs.length + ys.length → olds.length = xs.length * (T e).size →
        (∀ (i j : Nat) (c : List AV) (x : AV), xs[i]? = some c → c[j]? = some x → ∃ v, olds[i * (T e).size + j]? = some v ∧ RelD w S x v ∧ v.oneCell' = true) → (∀ c ∈ xs, c.length = (T e).size) →
        (∀ b, base = some b → ∀ j v, olds[j]? = some v → w.cell? (b.add j) = some v) → (base = none → xs = [] ∧ cap = 0) →
        ∃ k' w' cur', (Builtin.append_ #[t, t] ty #[cur, .slice (some ⟨ga, oa, none⟩) ys.length c]).run P w = .ok cur' w' ∧ k'.cur (xs ++ ys).length = some cur' ∧ RowRel T w' S e (xs ++ ys) k' ∧ w.grownBy w' k.blk ∧
          (ys = [] → k' = k) ∧ (∀ g, k'.blk = some g → (k.blk = some g ∨ w.heap.size ≤ g) ∧ g < w'.heap.size) ∧ ∀ a, S a → w'.cell? a = w.cell? a := by
      intro base cap olds hc hcap hol hod hxsz hbase hnone
      subst hc
      have hge := grownCap_ge w (xs.length + ys.length) cap e
      have hle := grownCap_le_maxLen w (xs.length + ys.length) cap e hmax
      have hbytes' : (xs.length + ys.length) * i.bytes ≤ 140737488355328 := by rw [tok.bytes]; exact hbytes
      let cs' : Array Value := olds.toArray ++ news.toArray ++ Builtin.zeroCells z.cells (grownCap w (xs.length + ys.length) cap e - (xs.length + ys.length))
      have hrun : (Builtin.append_ #[t, t] ty #[.slice base xs.length cap, .slice (some ⟨ga, oa, none⟩) ys.length c]).run P w =
          .ok (.slice (some ⟨w.heap.size, 0, none⟩) (xs.length + ys.length) (grownCap w (xs.length + ys.length) cap e)) (w.drew.alloc (.cells cs' e)) := by
        have hsm : xs.length + ys.length ≤ 9223372036854775807 := by unfold maxLen at hmax; omega
        cases base with
        | none =>
          obtain ⟨rfl, rfl⟩ := hnone rfl
          have ho0 : olds = [] := List.eq_nil_of_length_eq_zero (by simpa using hol)
          have := run_append_nil (P := P) w t ty e i z hu tok.info tok.zero ⟨ga, oa, none⟩ ys.length c news hl' hnews hpos (by simp at hsm; omega) (by have hb := hbytes'; simp only [List.length_nil, Nat.zero_add] at hb; omega)
          simp only [List.length_nil, Nat.zero_add, cs', ho0]
          rw [this]
          simp
        | some b =>
          exact run_append_grow (P := P) w t ty e i z hu tok.info tok.zero b xs.length cap olds (by rw [hol, tok.size]) (hbase b rfl) ⟨ga, oa, none⟩ ys.length c news hl' hnews hcap (by omega) (growslice_fits hcap hbytes')
      have hsame : ∀ g, g < w.heap.size → (w.drew.alloc (.cells cs' e)).heap[g]? = w.heap[g]? := fun g hg => heap_alloc_old w.drew _ g hg
      have hS : ∀ a, S a → (w.drew.alloc (.cells cs' e)).cell? a = w.cell? a := fun a ha => World.cell?_of_block (hsame a.block (hstab a ha))
      have hzl : z.cells.size = (T e).size := by
        have := (zOkL_rel (T := T) (h := ([] : Heap)) (β := []) (w := w) (S := S) _ _ tok.zok).1
        rw [Array.length_toList] at this
        rw [← this, tok.zlen]
      obtain ⟨w1, w2⟩ := whole (w.drew.alloc (.cells cs' e)) cs' olds hS hol hod hxsz (fun k v hk => by
        have hkl := (List.getElem?_eq_some_iff.1 hk).1
        simp only [cs']
        rw [Array.getElem?_append_left (by simpa using hkl)]
        simpa using hk)
      refine ⟨.row w.heap.size (grownCap w (xs.length + ys.length) cap e), _, _, hrun, by simp [Con.cur], ⟨cs', heap_alloc_new w.drew _, by simpa using hge, by omega, hle, ?_, w1, w2⟩, ⟨rfl, rfl, rfl, by simp, fun k hk _ => hsame k hk⟩, fun h0 => absurd h0 hys, ?_, hS⟩
      · simp only [cs', Array.size_append, List.size_toArray, size_zeroCells, hzl, hol, hl, ← Nat.add_mul]
        congr 1
        omega
      · intro g hg
        cases hg
        exact ⟨.inr (Nat.le_refl _), by simp⟩
    cases k with
    | box _ => exact hrow.elim
    | nil a =>
      have hx : xs = [] := hrow
      subst hx
      simp only [Con.cur, Option.some.injEq] at hcur
      refine grown a 0 [] hcur.symm (by simpa using hpos) (by simp) (by simp) (by simp) (fun b _ => by simp) (fun _ => ⟨rfl, rfl⟩)
    | row g cap =>
      obtain ⟨cs, q1, q2, q3, q4, q5, q6, q7⟩ := hrow
      simp only [Con.cur, Option.some.injEq] at hcur
      have hxsz : ∀ c ∈ xs, c.length = (T e).size := fun c hc => by
        obtain ⟨i, hi⟩ := List.getElem?_of_mem hc
        exact q6 i c hi
      have hfit : xs.length * (T e).size ≤ cs.size := by rw [q5]; exact Nat.mul_le_mul_right _ q2
      have hol : (cs.toList.take (xs.length * (T e).size)).length = xs.length * (T e).size := by simp; omega
      have hod : ∀ (i j : Nat) (c : List AV) (x : AV), xs[i]? = some c → c[j]? = some x → ∃ v, (cs.toList.take (xs.length * (T e).size))[i * (T e).size + j]? = some v ∧ RelD w S x v ∧ v.oneCell' = true := by
        intro i j c x hi hj
        obtain ⟨v, v1, v2, v3⟩ := q7 i j c x hi hj
        have hil := (List.getElem?_eq_some_iff.1 hi).1
        have hjl := (List.getElem?_eq_some_iff.1 hj).1
        rw [q6 i c hi] at hjl
        have : (i + 1) * (T e).size ≤ xs.length * (T e).size := Nat.mul_le_mul_right _ hil
        rw [Nat.add_mul, Nat.one_mul] at this
        exact ⟨v, by rw [List.getElem?_take, if_pos (by omega), Array.getElem?_toList]; exact v1, v2, v3⟩
      by_cases hroom : xs.length + ys.length ≤ cap
      · have hfit2 : xs.length * i.size + news.length ≤ cs.size := by rw [hl', q5, tok.size, ← Nat.add_mul]; exact Nat.mul_le_mul_right _ hroom
        have hr := run_append_room (P := P) w t ty e i hu tok.info g xs.length cap cs q1 ⟨ga, oa, none⟩ ys.length c news hl' hnews h1 hroom hfit2
        rw [tok.size] at hr hfit2
        rw [← hcur]
        let cs' : Array Value := (cs.toList.take (xs.length * (T e).size) ++ news ++ cs.toList.drop (xs.length * (T e).size + news.length)).toArray
        have hS : ∀ a, S a → (w.setRow g cs').cell? a = w.cell? a := by
          intro a ha
          by_cases hag : a.block = g
          · have hoff := hfree g a rfl ha hag
            simp only [World.cell?, hag, setRow_heap w g cs cs' e _ q1, q1]
            split
            · rfl
            · simp only [cs', List.getElem?_toArray, List.append_assoc]
              rw [List.getElem?_append_left (by rw [hol]; exact hoff), List.getElem?_take, if_pos hoff, Array.getElem?_toList]
          · exact World.cell?_of_block (setRow_other w g a.block cs' hag)
        obtain ⟨w1, w2⟩ := whole (w.setRow g cs') cs' _ hS hol hod hxsz (fun k v hk => by
          simp only [cs', List.getElem?_toArray]
          rw [List.getElem?_append_left (List.getElem?_eq_some_iff.1 hk).1]
          exact hk)
        refine ⟨.row g cap, _, _, hr, by simp [Con.cur], ⟨cs', setRow_heap w g cs cs' e _ q1, by simpa using hroom, q3, q4, ?_, w1, w2⟩, ⟨rfl, rfl, rfl, by simp, fun k _ hk => setRow_other w g k _ (fun e => hk (by rw [e]; rfl))⟩, fun _ => rfl, fun g' hg => ⟨.inl hg, ?_⟩, hS⟩
        · simp only [cs', List.size_toArray, List.length_append, List.length_take, List.length_drop, Array.length_toList]
          omega
        · simp only [World.setRow, Array.size_modify]
          exact hlt g' hg
      · refine grown (some ⟨g, 0, none⟩) cap _ hcur.symm (by omega) hol hod hxsz (fun b hb j v hj => ?_) (fun h0 => by cases h0)
        cases hb
        rw [add_mk, Nat.zero_add]
        rw [List.getElem?_take] at hj
        split at hj
        · rw [Array.getElem?_toList] at hj
          simp [World.cell?, q1, hj]
        · cases hj


theorem op_append (ht : TabOK E) (r : Rel E h β S w) (rt : RelTS E.T h β w S ts tmps) (hd : dstOk tmps.size o.dst = true) {args : Array Operand} {tys : Array TypeId} (hop : o.op = .call { callee := .builtin .append, args := args, argTypes := tys })
    (hs : stepOp (mk E) o ts h os = some out) (ho : holds out.o) (g : Goal E h β S w tmps out K) : o.wp E.P ⟨tmps, []⟩ w K Q := by
  simp only [stepOp, stepOpG, hop, mk_T, mk_G] at hs
  split at hs
  · rename_i x y t t' hax hat
    split at hs
    · rename_i htt
      have htt := Nat.eq_of_beq_eq_true htt
      subst htt
      have hae : args = #[x, y] := by apply Array.ext'; exact hax
      have hte : tys = #[t, t] := by apply Array.ext'; exact hat
      subst hae
      subst hte
      have hx := ev_ok (ds := []) r rt x
      have hy := ev_ok (ds := []) r rt y
      unfold AM.append at hs
      rw [mk_T] at hs
      split at hs
      · rename_i e ys hk hly
        obtain ⟨ti, dd, z, tok⟩ := ht.at_ (ne_of_kind (by rw [hk]; simp) : E.T t ≠ _)
        obtain ⟨rfl, hes⟩ := tok.slice_ hk
        obtain ⟨ti2, dd2, z2, tok2⟩ := ht.at_ (ne_of_size hes)
        split at hs
        · cases hs
        · rename_i hby
          have hby := Nat.le_of_ble_eq_true hby
          split at hs
          · rename_i hxe
            rw [hxe] at hx
            simp only [Option.some.injEq] at hs
            subst hs
            simp only [holds] at ho
            obtain ⟨ho1, ⟨ho2⟩, ho3⟩ := frzQ_O ho
            obtain ⟨A, cap, news, hyv, hnl, hn1, hA, hnd⟩ := list_cells r hy hly ho1 ho2 hes
            generalize hev : Act.eval ⟨tmps, []⟩ x = xv at hx
            cases hx with
            | d _ _ hd => cases hd
            | nl a =>
              obtain ⟨k', w', cur', h1, h2, h3, h4, h5, h6, h7⟩ := append_con (w := w) (S := S) (ty := o.type) tok2 tok.und hby (xs := []) (ys := ys) (k := .nil a) rfl (fun g a hg => by cases hg) (fun g hg => by cases hg) r.stable rfl hnl hn1 ho2 hA hnd (c := cap) (by simpa using ho3)
              have hb : Below w.heap.size w w' := ⟨h4.os, h4.tape, h4.output, h4.size, fun k hk => h4.block k hk (by simp [Con.blk])⟩
              obtain ⟨e1, r1⟩ := r.newRow e ys false k' hb (fun g hg => by
                obtain ⟨c1, c2⟩ := h6 g hg
                rcases c1 with c1 | c1
                · cases c1
                · exact ⟨c1, c2⟩) (by simpa using h3)
              have hkg : (β ++ [k'])[h.length]? = some k' := by rw [← r.len, getElem?_append_new]
              simp only [List.nil_append] at h2
              refine wp_value r rt hd g (x := .own h.length ys.length) (y := cur') ?_ rfl r1 e1 (.own _ _ _ e ys false (getElem?_append_new _ _) (Nat.le_refl _) (fun _ => by rw [hkg]; exact h2) ?_)
              · simp only [execOp, hop, resolve, invoke, builtin, Sem.run_bind, Sem.run_pure, Result.andThen_ok, List.map_toArray, List.map_cons, List.map_nil, hev, hyv, h1]
              · cases k' <;> simp [Con.cur] at h2 <;> subst h2 <;> rfl
          · rename_i b n hxe
            rw [hxe] at hx
            cases hb : h[b]? with
            | none => simp [hb] at hs
            | some B =>
              cases B with
              | box cs => simp [hb] at hs
              | row e' xs sh =>
                simp only [hb] at hs
                split at hs
                · rename_i hee
                  subst hee
                  simp only [Option.some.injEq] at hs
                  subst hs
                  simp only [holds] at ho
                  obtain ⟨ho1, ⟨ho2⟩, hn, ho3⟩ := frzQ_O ho
                  obtain ⟨A, cap, news, hyv, hnl, hn1, hA, hnd⟩ := list_cells r hy hly ho1 ho2 hes
                  generalize hev : Act.eval ⟨tmps, []⟩ x = xv at hx
                  cases hx with
                  | d _ _ hd => cases hd
                  | own _ _ _ e2 xs2 sh2 hb2 _ hcy _ =>
                    rw [hb] at hb2
                    cases hb2
                    have hcur := hcy hn
                    obtain ⟨k, hk1, hrow⟩ := r.row b e xs sh hb
                    rw [hk1] at hcur
                    simp only [Option.bind_some] at hcur
                    rw [hn] at hcur
                    obtain ⟨k', w', cur', h1, h2, h3, h4, h5, h6, h7⟩ := append_con (w := w) (S := S) (ty := o.type) tok2 tok.und hby hrow (fun g a hg ha hag => by
                      obtain ⟨e3, xs3, c1, c2⟩ := r.free b k g a hk1 hg ha hag
                      rw [hb] at c1
                      cases c1
                      exact c2) (fun g hg => r.lt b k g hk1 hg) r.stable hcur hnl hn1 ho2 hA hnd (c := cap) ho3
                    have tn : Turn h β S w b (.row e (xs ++ ys) sh) k k' S w' := {
                      kb := hk1
                      box := fun cs hc => by rw [hb] at hc; cases hc
                      row := fun e1 xs1 sh1 hc => by
                        rw [hb] at hc
                        cases hc
                        exact ⟨_, _, rfl, by simp, fun he => h5 (List.eq_nil_of_length_eq_zero (by simp at he; simp [he]))⟩
                      S_le := fun _ h => h
                      S_cell := h7
                      S_new := fun _ h => .inl h
                      S_lt := fun a ha => Nat.lt_of_lt_of_le (r.stable a ha) h4.size
                      os := h4.os
                      tape := h4.tape
                      output := h4.output
                      size := h4.size
                      keep := fun g hg hne => h4.block g hg (fun e => hne e.symm)
                      own := h6 }
                    have e1 := r.turnExt hb tn
                    have r1 := r.turn hb tn (fun cs hc => by cases hc) (fun e1 xs1 sh1 hc => by cases hc; exact h3) (fun g a hg ha hag => by
                      have hS := r.stable a ha
                      rcases (h6 g hg).1 with c1 | c1
                      · obtain ⟨e3, xs3, c2, c3⟩ := r.free b k g a hk1 c1 ha hag
                        rw [hb] at c2
                        cases c2
                        refine ⟨e, xs ++ ys, rfl, Nat.lt_of_lt_of_le c3 (Nat.mul_le_mul_right _ (by simp))⟩
                      · omega)
                    have hkg : (β.set b k')[b]? = some k' := set_same hk1
                    refine wp_value r rt hd g (x := .own b (xs ++ ys).length) (y := cur') ?_ rfl r1 e1 (.own _ _ _ e (xs ++ ys) sh (set_same hb) (Nat.le_refl _) (fun _ => by rw [hkg]; exact h2) ?_)
                    · simp only [execOp, hop, resolve, invoke, builtin, Sem.run_bind, Sem.run_pure, Result.andThen_ok, List.map_toArray, List.map_cons, List.map_nil, hev, hyv, h1]
                    · cases k' <;> simp [Con.cur] at h2 <;> subst h2 <;> rfl
                · cases hs
          · cases hs
      · cases hs
    · cases hs
  · cases hs

end
end Go.AM

namespace Go.AM
open Go.RowKit
set_option linter.unusedSimpArgs false
set_option linter.unusedVariables false
theorem copyXs_none {xs : List (List AV)} {d s : Nat} (h : min (xs.length - s) (xs.length - d) = 0) : copyXs xs d s = xs := by
  have : (xs.drop s).take (xs.length - d) = [] := List.eq_nil_of_length_eq_zero (by simp; omega)
  unfold copyXs
  rw [this]
  simp
theorem copyXs_get {xs : List (List AV)} {d s : Nat} (hd : d ≤ xs.length) (i : Nat) : (copyXs xs d s)[i]? = if i < d then xs[i]? else if i < d + min (xs.length - s) (xs.length - d) then xs[s + (i - d)]? else xs[i]? := by
  have hl : ((xs.drop s).take (xs.length - d)).length = min (xs.length - s) (xs.length - d) := by simp; omega
  unfold copyXs
  by_cases h1 : i < d
  · rw [if_pos h1, List.getElem?_append_left (by simp; omega), List.getElem?_take, if_pos h1]
  · rw [if_neg h1, List.getElem?_append_right (by simp; omega)]
    have ht : (xs.take d).length = d := by simp; omega
    rw [ht]
    by_cases h2 : i < d + min (xs.length - s) (xs.length - d)
    · rw [if_pos h2, List.getElem?_append_left (by rw [hl]; omega), List.getElem?_take, if_pos (by omega), List.getElem?_drop]
    · rw [if_neg h2, List.getElem?_append_right (by rw [hl]; omega), hl, List.getElem?_drop]
      congr 1; omega
theorem copyXs_length {xs : List (List AV)} {d s : Nat} (hd : d ≤ xs.length) : (copyXs xs d s).length = xs.length := by
  unfold copyXs; simp; omega

section
variable {E : Env0} {h : Heap} {β : List Con} {S : Addr → Prop} {w : World} {tmps : Array Value} {ts : TS} {K : Act → World → Prop} {Q : Exit → Act → World → Prop} {o : Oper} {os : List Orc} {out : Out}
theorem op_copy (ht : TabOK E) (r : Rel E h β S w) (rt : RelTS E.T h β w S ts tmps) (hd : dstOk tmps.size o.dst = true) {args : Array Operand} {tys : Array TypeId} (hop : o.op = .call { callee := .builtin .copy, args := args, argTypes := tys })
    (hs : stepOp (mk E) o ts h os = some out) (ho : holds out.o) (g : Goal E h β S w tmps out K) : o.wp E.P ⟨tmps, []⟩ w K Q := by
  simp only [stepOp, stepOpG, hop, mk_T, mk_G] at hs
  split at hs
  · rename_i x y t t' hax hat
    have hae : args = #[x, y] := by apply Array.ext'; exact hax
    have hte : tys = #[t, t'] := by apply Array.ext'; exact hat
    subst hae
    subst hte
    have hx := ev_ok (ds := []) r rt x
    have hy := ev_ok (ds := []) r rt y
    split at hs
    · rename_i el b n d b' n' s hk hex hey
      rw [hex] at hx
      rw [hey] at hy
      obtain ⟨ti, dd, z, tok⟩ := ht.at_ (ne_of_kind (by rw [hk]; simp) : E.T t ≠ _)
      obtain ⟨rfl, hes⟩ := tok.slice_ hk
      obtain ⟨ti2, dd2, z2, tok2⟩ := ht.at_ (ne_of_size hes)
      split at hs
      · rename_i e' xs hbb hb
        have hbb := Nat.eq_of_beq_eq_true hbb
        subst hbb
        split at hs
        · rename_i hee
          subst hee
          simp only [Option.some.injEq] at hs
          subst hs
          simp only [holds] at ho
          obtain ⟨hn, hn'⟩ := ho
          generalize hev : Act.eval ⟨tmps, []⟩ x = xv at hx
          generalize hev' : Act.eval ⟨tmps, []⟩ y = yv at hy
          cases hx with
          | d _ _ hd => cases hd
          | os _ _ _ a c e2 xs2 sh2 hb2 _ hdl hax =>
          cases hy with
          | d _ _ hd => cases hd
          | os _ _ _ a' c' e3 xs3 sh3 hb3 _ hsl hay =>
          rw [hb] at hb2 hb3
          cases hb2
          cases hb3
          by_cases hm : Nat.min (n' - s) (n - d) = 0
          · have hcx : copyXs xs d s = xs := copyXs_none (by rw [hn, hn'] at hm; exact hm)
            have hset : h.set b (.row el xs false) = h := by
              apply List.ext_getElem?
              intro i
              by_cases hi : i = b
              · subst hi; rw [set_same hb, hb]
              · rw [set_other hi]
            rw [hcx, hset] at g
            refine wp_pure r rt hd g (y := goInt 0) ?_ (.d _ _ (.un _))
            cases a <;> cases a' <;> simp [execOp, hop, resolve, invoke, builtin, Builtin.copy_, run_underlying tok.und, hev, hev', Builtin.lenOf, Builtin.firstCells, tok2.sizeOf, hm, storeCells, loadCells, loadCellsFrom]
          · have hdn : d < n := by have h5 : Nat.min (n' - s) (n - d) ≤ n - d := Nat.min_le_right _ _; omega
            have hsn : s < n' := by have h5 : Nat.min (n' - s) (n - d) ≤ n' - s := Nat.min_le_left _ _; omega
            obtain ⟨gg, cap, hcon, rfl⟩ := hax hn hdn
            obtain ⟨gg', cap', hcon', rfl⟩ := hay hn' hsn
            rw [hcon] at hcon'
            cases hcon'
            obtain ⟨k, k2, hrow⟩ := r.row b el xs false hb
            rw [hcon] at k2
            cases k2
            obtain ⟨cs, q1, q2, q3, q4, q5, q6, q7⟩ := hrow
            obtain ⟨m, hmm⟩ : ∃ m, m = Nat.min (n' - s) (n - d) := ⟨_, rfl⟩
            have hm1 : m ≤ n' - s := by rw [hmm]; exact Nat.min_le_left _ _
            have hm2 : m ≤ n - d := by rw [hmm]; exact Nat.min_le_right _ _
            have hm3 : m = min (xs.length - s) (xs.length - d) := by rw [hmm, hn, hn']
            obtain ⟨sz, hsz⟩ : ∃ sz, sz = (E.T el).size := ⟨_, rfl⟩
            rw [← hsz] at q5 q6 q7
            have b1 : s * sz + m * sz ≤ cap * sz := by rw [← Nat.add_mul]; exact Nat.mul_le_mul_right _ (by omega)
            have b2 : d * sz + m * sz ≤ cap * sz := by rw [← Nat.add_mul]; exact Nat.mul_le_mul_right _ (by omega)
            obtain ⟨L, hL⟩ : ∃ L, L = (cs.toList.drop (s * sz)).take (m * sz) := ⟨_, rfl⟩
            have hLl : L.length = m * sz := by rw [hL]; simp; omega
            have hLg : ∀ j, j < m * sz → L[j]? = cs[s * sz + j]? := by
              intro j hj
              rw [hL, List.getElem?_take, if_pos hj, List.getElem?_drop]; simp
            have hone : ∀ i j c, xs[i]? = some c → j < sz → ∃ v, cs[i * sz + j]? = some v ∧ v.oneCell' = true := by
              intro i j c hi hj
              have hc := q6 i c hi
              obtain ⟨v, v1, v2, v3⟩ := q7 i j c c[j] hi (List.getElem?_eq_getElem (by omega))
              exact ⟨v, v1, v3⟩
            have hszp : 0 < sz := by rw [hsz]; omega
            have hL1 : ∀ v ∈ L, v.oneCell' = true := by
              intro v hv
              obtain ⟨j, hj⟩ := List.getElem?_of_mem hv
              have hjl : j < m * sz := by rw [← hLl]; exact (List.getElem?_eq_some_iff.1 hj).1
              rw [hLg j hjl] at hj
              have e1 : j / sz * sz + j % sz = j := by rw [Nat.mul_comm]; exact Nat.div_add_mod j sz
              have e2 : j / sz < m := Nat.div_lt_of_lt_mul (by rw [Nat.mul_comm]; exact hjl)
              have e3 : s + j / sz < xs.length := by omega
              obtain ⟨v', v1, v2⟩ := hone (s + j / sz) (j % sz) _ (List.getElem?_eq_getElem e3) (Nat.mod_lt _ hszp)
              rw [show (s + j / sz) * sz + j % sz = s * sz + j by rw [Nat.add_mul]; omega, hj] at v1
              cases v1
              exact v2
            have hcell : ∀ j v, L[j]? = some v → w.cell? ((⟨gg, s * sz, none⟩ : Addr).add j) = some v := by
              intro j v hj
              have hjl : j < m * sz := by rw [← hLl]; exact (List.getElem?_eq_some_iff.1 hj).1
              rw [hLg j hjl] at hj
              rw [add_mk]
              simp [World.cell?, q1, hj]
            have hfc := run_firstCells_some (P := E.P) (w := w) (E.T el).size m ⟨gg, s * sz, none⟩ (n' - s) c' L (by rw [hLl, hsz]) hcell
            obtain ⟨w', hst1, hst⟩ := run_storeCells (P := E.P) L 0 w gg (d * sz) cs.toList el (by simpa using q1) (by rw [hLl]; simp; omega) hL1
            have hrun : (execOp (Act.eval ⟨tmps, []⟩) o).run E.P w = .ok (.value (goInt m)) w' := by
              subst hsz
              simp [execOp, hop, resolve, invoke, builtin, Builtin.copy_, run_underlying tok.und, hev, hev', Builtin.lenOf, tok2.sizeOf, ← hmm, hfc, hst1]
            have hset : β.set b (.row gg cap) = β := by
              apply List.ext_getElem?
              intro i
              by_cases hi : i = b
              · subst hi; rw [set_same hcon, hcon]
              · rw [set_other hi]
            have hS : ∀ a, S a → a.block ≠ gg := fun a ha e2 => by
              obtain ⟨e1, xs1, h1, _⟩ := r.free b _ gg a hcon rfl ha e2
              rw [hb] at h1
              cases h1
            have hcl : (copyXs xs d s).length = xs.length := copyXs_length (by omega)
            have tn : Turn h β S w b (.row el (copyXs xs d s) false) (.row gg cap) (.row gg cap) S w' := {
              kb := hcon
              box := fun cs1 h1 => by rw [hb] at h1; cases h1
              row := fun e1 xs1 sh1 h1 => by
                rw [hb] at h1
                cases h1
                exact ⟨_, _, rfl, by rw [hcl]; exact Nat.le_refl _, fun _ => rfl⟩
              S_le := fun _ h => h
              S_cell := fun a ha => World.cell?_of_block (hst.keep a.block (hS a ha))
              S_new := fun _ h => .inl h
              S_lt := fun a ha => by rw [hst.size]; exact r.stable a ha
              os := hst.os
              tape := hst.tape
              output := hst.output
              size := by rw [hst.size]; exact Nat.le_refl _
              keep := fun k _ hk => hst.keep k (fun e => hk (by rw [e]; rfl))
              own := fun k hk => by
                cases hk
                exact ⟨.inl rfl, by rw [hst.size]; exact r.lt b _ gg hcon rfl⟩ }
            have e1 := r.turnExt hb tn
            have hDm : ∀ {a : AV} {v : Value}, RelD w S a v → RelD w' S a v := fun hd => hd.mono (fun _ h => h) tn.S_cell
            have hov := fun k => overlay_get (cs := cs.toList) (off := d * sz) (vs := L) (by rw [hLl]; simp; omega) k
            have hg := fun i => copyXs_get (xs := xs) (d := d) (s := s) (by omega) i
            rw [← hm3] at hg
            have r1 := r.turn hb tn (fun cs' hcs => by cases hcs) (fun e2 xs2 sh2 h2 => by
              cases h2
              refine ⟨_, by rw [hst.heap], by rw [hcl]; exact q2, q3, q4, ?_, ?_, ?_⟩
              · simp only [List.size_toArray, Nat.add_zero]; rw [overlay_length _ _ _ (by rw [hLl]; simp; omega)]; simpa [hsz] using q5
              · intro i c hi
                rw [hg] at hi
                rw [← hsz]
                split at hi
                · exact q6 i c hi
                · split at hi
                  · exact q6 _ c hi
                  · exact q6 i c hi
              · intro i j c a hi hj
                rw [← hsz]
                simp only [List.getElem?_toArray, Nat.add_zero]
                rw [hov, hLl]
                rw [hg] at hi
                split at hi
                · rename_i h1
                  have hjl : j < sz := by rw [← q6 i c hi]; exact (List.getElem?_eq_some_iff.1 hj).1
                  obtain ⟨v, v1, v2, v3⟩ := q7 i j c a hi hj
                  have : (i + 1) * sz ≤ d * sz := Nat.mul_le_mul_right _ (by omega)
                  rw [Nat.add_mul, Nat.one_mul] at this
                  exact ⟨v, by rw [if_pos (by omega)]; simpa using v1, hDm v2, v3⟩
                · rename_i h1
                  have h1' : d * sz ≤ i * sz := Nat.mul_le_mul_right _ (by omega)
                  split at hi
                  · rename_i h2
                    have hjl : j < sz := by rw [← q6 _ c hi]; exact (List.getElem?_eq_some_iff.1 hj).1
                    obtain ⟨v, v1, v2, v3⟩ := q7 _ j c a hi hj
                    have : (i + 1) * sz ≤ (d + m) * sz := Nat.mul_le_mul_right _ (by omega)
                    rw [Nat.add_mul, Nat.one_mul, Nat.add_mul] at this
                    refine ⟨v, ?_, hDm v2, v3⟩
                    rw [if_neg (by omega), if_pos (by omega), hLg _ (by omega), ← v1]
                    congr 1
                    rw [Nat.add_mul, Nat.sub_mul]; omega
                  · rename_i h2
                    obtain ⟨v, v1, v2, v3⟩ := q7 i j c a hi hj
                    have : (d + m) * sz ≤ i * sz := Nat.mul_le_mul_right _ (by omega)
                    rw [Nat.add_mul] at this
                    exact ⟨v, by rw [if_neg (by omega), if_neg (by omega)]; simpa using v1, hDm v2, v3⟩) (fun k a hk ha hka => by cases hk; exact absurd hka (hS a ha))
            rw [hset] at e1 r1
            exact wp_value r rt hd g hrun rfl r1 e1 (.d _ _ (.un _))
        · cases hs
      · cases hs
    · cases hs
  · cases hs
end
end Go.AM
