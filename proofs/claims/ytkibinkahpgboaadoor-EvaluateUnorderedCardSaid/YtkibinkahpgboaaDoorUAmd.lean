/-
  Runs, tables of types, loops, steps of walks.
-/
import Derived.Scope
import Derived.Test.YtkibinkahpgboaaDoorUAmc
import Derived.Laws.StructEq
namespace Go.AM
open Go.RowKit
set_option linter.unusedSimpArgs false
set_option linter.unusedVariables false

section
variable {E : Env0} {h : Heap} {β : List Con} {S : Addr → Prop} {w : World} {tmps : Array Value} {ts : TS} {K : Act → World → Prop} {Q : Exit → Act → World → Prop} {o : Oper} {os : List Orc} {out : Out}

theorem upon_mono2 {P : Program} {o : Oper} {a : Act} {w : World} {K K' : Act → World → Prop} {Q Q' : Exit → Act → World → Prop} (h : ∀ a w, K a w → K' a w) (hq : ∀ e a w, Q e a w → Q' e a w)
    (hh : o.wp P a w K Q) : o.wp P a w K' Q' := by
  unfold Oper.wp at *
  generalize (execOp a.eval o).run P w = r at *
  cases r with
  | ok n w' =>
    cases n <;> simp only [Oper.upon] at hh ⊢ <;>
      first
        | exact h _ _ hh
        | exact Calls.mono hh (fun e w'' he => by cases e <;> first | exact h _ _ he | exact hq _ _ _ he | exact (let ⟨a, w, q⟩ := he; ⟨a, w, hq _ _ _ q⟩))
        | exact Rows.mono hh (fun _ _ he => h _ _ he)
  | halt x w' => cases x <;> simp only [Oper.upon] at hh ⊢ <;> first | exact hh | exact hq _ _ _ hh

theorem wpList_mono2 {P : Program} {ops : Array Oper} {Q Q' : Exit → Act → World → Prop} (hq : ∀ e a w, Q e a w → Q' e a w) : ∀ (l : List Oper) (a : Act) (w : World), wpList P ops Q l a w → wpList P ops Q' l a w
  | [], a, w, h => hq _ _ _ h
  | o :: r, a, w, h => by
    unfold wpList at h ⊢
    split
    · rename_i hw
      rw [if_pos hw] at h
      rcases h with h | ⟨h1, a', w', h2⟩
      · exact .inl (upon_mono2 (fun a w hh => wpList_mono2 hq r a w hh) hq h)
      · exact .inr ⟨h1, a', w', hq _ _ _ h2⟩
    · rename_i hw
      rw [if_neg hw] at h
      exact wpList_mono2 hq r _ _ h

/-- In a loop, about to run its body. -/
def lpWp (P : Program) (c : Code) (Q : Exit → Act → World → Prop) (a : Act) (w : World) : Prop :=
  ∀ (b : Frame) (k : List Item) (cs : List Frame), ∃ e a' w', Q e a' w' ∧ Arrives P (lone (b.at a (.code c :: .inLoop c :: k)) cs w) b k cs e a' w'

theorem lpWp_mono {P : Program} {c : Code} {Q Q' : Exit → Act → World → Prop} {a : Act} {w : World} (h : lpWp P c Q a w) (hq : ∀ e a w, Q e a w → Q' e a w) : lpWp P c Q' a w :=
  fun b k cs => let ⟨e, a', w', q, r⟩ := h b k cs; ⟨e, a', w', hq _ _ _ q, r⟩

theorem wp_loop_lp {P : Program} {c : Code} {Q : Exit → Act → World → Prop} {a : Act} {w : World} (h : lpWp P c Q a w) : (Code.loop c).wp P Q a w :=
  fun b k cs => let ⟨e, a', w', q, r⟩ := h b k cs; ⟨e, a', w', q, .of_steps (.one step_loop) r⟩

theorem lpWp_round {P : Program} {c : Code} {Q : Exit → Act → World → Prop} {a : Act} {w : World} (h : c.wp P (Exit.then (lpWp P c Q) Q) a w) : lpWp P c Q a w := by
  intro b k cs
  obtain ⟨e, a₁, w₁, hq, harr⟩ := h b (.inLoop c :: k) cs
  cases e with
  | normal =>
    obtain ⟨e₂, a₂, w₂, hq₂, harr₂⟩ := hq b k cs
    exact ⟨e₂, a₂, w₂, hq₂, .of_steps (Steps.trans harr (.one step_inLoop)) harr₂⟩
  | exit id => exact ⟨_, a₁, w₁, hq, .pass (x := .inLoop c) rfl (fun _ _ => .inl (by simp)) harr⟩
  | goto l => exact ⟨_, a₁, w₁, hq, .pass (x := .inLoop c) rfl (fun _ _ => .inl (by simp)) harr⟩
  | ret => exact ⟨_, a₁, w₁, hq, .pass (x := .inLoop c) rfl (fun _ _ => .inl (by simp)) harr⟩
  | panic ch => exact ⟨_, a₁, w₁, hq, .pass (x := .inLoop c) rfl (fun _ _ => .inl (by simp)) harr⟩
  | outgrown => exact ⟨_, a₁, w₁, hq, .pass (x := .inLoop c) rfl (fun _ _ => .inl (by simp)) harr⟩

/-- What is left to do. -/
def kont (P : Program) : List It → (Exit → Act → World → Prop) → Exit → Act → World → Prop
  | [], Q, e, a, w => Q e a w
  | .code c :: k, Q, e, a, w => Exit.then (fun a w => c.wp P (kont P k Q) a w) (kont P k Q) e a w
  | .ops all rest :: k, Q, e, a, w => Exit.then (fun a w => wpList P all.toArray (kont P k Q) rest a w) (kont P k Q) e a w
  | .blk id :: k, Q, e, a, w => Exit.inBlock id (kont P k Q) e a w
  | .lp c :: k, Q, e, a, w => Exit.then (fun a w => lpWp P c (kont P k Q) a w) (kont P k Q) e a w

theorem then_mono {N N' : Act → World → Prop} {Q Q' : Exit → Act → World → Prop} (hn : ∀ a w, N a w → N' a w) (hq : ∀ e a w, Q e a w → Q' e a w) : ∀ e a w, Exit.then N Q e a w → Exit.then N' Q' e a w := by
  intro e a w h
  cases e <;> first | exact hn _ _ h | exact hq _ _ _ h

theorem inBlock_mono {id : Nat} {Q Q' : Exit → Act → World → Prop} (hq : ∀ e a w, Q e a w → Q' e a w) : ∀ e a w, Exit.inBlock id Q e a w → Exit.inBlock id Q' e a w := by
  intro e a w h
  cases e with
  | exit i =>
    simp only [Exit.inBlock] at h ⊢
    split
    · rename_i hi; rw [if_pos hi] at h; exact hq _ _ _ h
    · rename_i hi; rw [if_neg hi] at h; exact hq _ _ _ h
  | _ => exact hq _ _ _ h

theorem kont_mono {P : Program} {Q Q' : Exit → Act → World → Prop} (hq : ∀ e a w, Q e a w → Q' e a w) : ∀ (k : List It) (e : Exit) (a : Act) (w : World), kont P k Q e a w → kont P k Q' e a w
  | [], e, a, w, h => hq e a w h
  | .code c :: k, e, a, w, h => then_mono (fun a w hh => wp_mono hh (kont_mono hq k)) (kont_mono hq k) e a w h
  | .ops all rest :: k, e, a, w, h => then_mono (fun a w hh => wpList_mono2 (kont_mono hq k) rest a w hh) (kont_mono hq k) e a w h
  | .blk id :: k, e, a, w, h => inBlock_mono (kont_mono hq k) e a w h
  | .lp c :: k, e, a, w, h => then_mono (fun a w hh => lpWp_mono hh (kont_mono hq k)) (kont_mono hq k) e a w h

theorem kont_goto {P : Program} {fn : Func} {R : Ending → World → Prop} : ∀ (k : List It) (l : Nat) (a : Act) (w : World), kont P k (bodyPost P fn R) (.goto l) a w → False
  | [], _, _, _, h => h
  | .code _ :: k, l, a, w, h => kont_goto k l a w h
  | .ops _ _ :: k, l, a, w, h => kont_goto k l a w h
  | .blk _ :: k, l, a, w, h => kont_goto k l a w h
  | .lp _ :: k, l, a, w, h => kont_goto k l a w h

theorem Post.ext {h' : Heap} {β' : List Con} {S' : Addr → Prop} {w' : World} {R : AV → Heap → Prop} (x : Ext h β S w h' β' S' w') (e : Ending) (w'' : World) (hp : Post E h' β' S' w' R e w'') : Post E h β S w R e w'' := by
  obtain ⟨r, h2, β2, S2, y, h1, h3, h4, h5, h6⟩ := hp
  exact ⟨r, h2, β2, S2, y, h1, h3, h4, x.trans h5, h6⟩

theorem bodyPost_mono {P : Program} {fn : Func} {R R' : Ending → World → Prop} (hr : ∀ e w, R e w → R' e w) : ∀ e a w, bodyPost P fn R e a w → bodyPost P fn R' e a w := by
  intro e a w h
  cases e with
  | normal => obtain ⟨h1, v, h2, h3⟩ := h; exact ⟨h1, v, h2, hr _ _ h3⟩
  | ret => obtain ⟨h1, v, h2, h3⟩ := h; exact ⟨h1, v, h2, hr _ _ h3⟩
  | panic c => obtain ⟨h1, h2⟩ := h; exact ⟨h1, hr _ _ h2⟩
  | outgrown => exact hr _ _ h
  | exit i => exact h
  | goto l => exact h

/-- From such a state the function, entered in the heap h0, comes to an end of which 'R' holds. -/
def Good (E : Env0) (fn : Func) (h0 : Heap) (c : Cfg) (R : AV → Heap → Prop) : Prop :=
  ∀ (β0 : List Con) (S0 : Addr → Prop) (w0 : World) (β : List Con) (S : Addr → Prop) (w : World) (tmps : Array Value), β0.length = h0.length → tmps.size = c.n → Ext h0 β0 S0 w0 c.h β S w → Rel E c.h β S w → RelTS E.T c.h β w S c.ts tmps →
    kont E.P c.todo (bodyPost E.P fn (Post E h0 β0 S0 w0 R)) .normal ⟨tmps, []⟩ w

theorem exitTo_ok {P : Program} {Q : Exit → Act → World → Prop} {id : Nat} : ∀ (k k' : List It) (a : Act) (w : World), exitTo id k = some k' → kont P k' Q .normal a w → kont P k Q (.exit id) a w
  | [], k', a, w, he, _ => by cases he
  | .blk i :: k, k', a, w, he, hk => by
    unfold exitTo at he
    simp only [kont, Exit.inBlock]
    split at he
    · rename_i hi
      have := Nat.eq_of_beq_eq_true hi
      subst this
      cases he
      rw [if_pos rfl]
      exact hk
    · rename_i hi
      have hne : ¬ id = i := by rintro rfl; simp [Nat.beq_refl] at hi
      rw [if_neg hne]
      exact exitTo_ok k k' a w he hk
  | .code c :: k, k', a, w, he, hk => by simp only [kont, Exit.then]; exact exitTo_ok k k' a w (by simpa [exitTo] using he) hk
  | .ops all r :: k, k', a, w, he, hk => by simp only [kont, Exit.then]; exact exitTo_ok k k' a w (by simpa [exitTo] using he) hk
  | .lp c :: k, k', a, w, he, hk => by simp only [kont, Exit.then]; exact exitTo_ok k k' a w (by simpa [exitTo] using he) hk

theorem step_ok (ht : TabOK E) (hm : E.P.follows .mixedOrders = true) {fn : Func} {R : AV → Heap → Prop} {c c' : Cfg} {os os' : List Orc} {q : Option Prop} (hs : step (mk E) c os = some (q, c', os')) {h0 : Heap} (hq : holds q) (hg : Good E fn h0 c' R) : Good E fn h0 c R := by
  intro β0 S0 w0 β S w tmps hb0 hn x0 r rt
  obtain ⟨n, todo, ts, h⟩ := c
  simp only at hn x0 r rt ⊢
  unfold step at hs
  simp only at hs
  cases todo with
  | nil => cases hs
  | cons it k =>
    cases it with
    | blk id =>
      simp only [Option.some.injEq, Prod.mk.injEq] at hs
      obtain ⟨_, rfl, _⟩ := hs
      exact hg β0 S0 w0 β S w tmps hb0 hn x0 r rt
    | lp cc => cases hs
    | ops all rest =>
      cases rest with
      | nil =>
        simp only [Option.some.injEq, Prod.mk.injEq] at hs
        obtain ⟨_, rfl, _⟩ := hs
        exact hg β0 S0 w0 β S w tmps hb0 hn x0 r rt
      | cons o rest =>
        simp only at hs
        split at hs
        · rename_i x hdst hx
          simp only [Option.some.injEq, Prod.mk.injEq] at hs
          obtain ⟨rfl, rfl, _⟩ := hs
          have hd : dstOk tmps.size o.dst = true := by rw [hn]; exact hdst
          simp only [kont, Exit.then]
          refine wpList_step fun K hK => ?_
          have := stepG_ok (Q := kont E.P k (bodyPost E.P fn (Post E h0 β0 S0 w0 R))) (K := K) ht r rt hd hx hq ⟨fun β' S' w' tmps' hsz r' e' rt' => hK _ _ ?_⟩
          · exact this
          · have := hg β0 S0 w0 β' S' w' tmps' hb0 (by rw [hsz]; exact hn) (x0.trans e') r' rt'
            simp only [kont, Exit.then] at this
            exact this
        · cases hs
    | code cc =>
      simp only [kont, Exit.then]
      cases cc with
      | skip =>
        simp only [Option.some.injEq, Prod.mk.injEq] at hs
        obtain ⟨_, rfl, _⟩ := hs
        exact wp_skip (hg β0 S0 w0 β S w tmps hb0 hn x0 r rt)
      | label l =>
        simp only [Option.some.injEq, Prod.mk.injEq] at hs
        obtain ⟨_, rfl, _⟩ := hs
        exact wp_label (hg β0 S0 w0 β S w tmps hb0 hn x0 r rt)
      | scope a =>
        simp only [Option.some.injEq, Prod.mk.injEq] at hs
        obtain ⟨_, rfl, _⟩ := hs
        refine wp_scope_straight (wp_mono (hg β0 S0 w0 β S w tmps hb0 hn x0 r rt) fun e a w he => ?_)
        cases e with
        | goto l => exact kont_goto k l a w he
        | _ => exact he
      | loop a =>
        simp only [Option.some.injEq, Prod.mk.injEq] at hs
        obtain ⟨_, rfl, _⟩ := hs
        exact wp_loop_lp (hg β0 S0 w0 β S w tmps hb0 hn x0 r rt)
      | seq a b =>
        simp only [Option.some.injEq, Prod.mk.injEq] at hs
        obtain ⟨_, rfl, _⟩ := hs
        refine wp_seq (wp_mono (hg β0 S0 w0 β S w tmps hb0 hn x0 r rt) fun e a w he => ?_)
        cases e <;> exact he
      | block id a =>
        simp only [Option.some.injEq, Prod.mk.injEq] at hs
        obtain ⟨_, rfl, _⟩ := hs
        refine wp_block (wp_mono (hg β0 S0 w0 β S w tmps hb0 hn x0 r rt) fun e a w he => ?_)
        cases e <;> exact he
      | region id ops draw =>
        cases draw with
        | true =>
          simp only at hs
          split at hs
          · rename_i l os1
            split at hs
            · rename_i qs ts1 h1 hlv hsz
              simp only [Option.some.injEq, Prod.mk.injEq] at hs
              obtain ⟨rfl, rfl, _⟩ := hs
              simp only [holds] at hq
              exact wp_draw ht hm (Nat.eq_of_beq_eq_true hsz) hlv hq hn x0 r rt (fun β' S' w' tmps' hn' x' r' rt' => hg β0 S0 w0 β' S' w' tmps' hb0 hn' x' r' rt')
            · cases hs
          · cases hs
        | false =>
          simp only [Option.some.injEq, Prod.mk.injEq] at hs
          obtain ⟨_, rfl, _⟩ := hs
          have := hg β0 S0 w0 β S w tmps hb0 hn x0 r rt
          simp only [kont, Exit.then] at this
          exact wp_region_list this
      | exit id =>
        simp only at hs
        split at hs
        · rename_i k' hk
          simp only [Option.some.injEq, Prod.mk.injEq] at hs
          obtain ⟨_, rfl, _⟩ := hs
          exact wp_exit (exitTo_ok k k' _ _ hk (hg β0 S0 w0 β S w tmps hb0 hn x0 r rt))
        · cases hs
      | cond x a b =>
        have hx := ev_ok (ds := []) r rt x
        have lit : ∀ bb, Act.eval ⟨tmps, []⟩ x = .bool bb → RelTS E.T h β w S (litAt ts bb x) tmps := by
          intro bb he
          cases x with
          | tmp d => exact rt.lit he
          | _ => exact rt
        simp only at hs
        split at hs
        · rename_i he
          simp only [mk_G] at he
          rw [he] at hx
          simp only [Option.some.injEq, Prod.mk.injEq] at hs
          obtain ⟨_, rfl, _⟩ := hs
          exact wp_cond_true hx.bl_inv (hg β0 S0 w0 β S w tmps hb0 hn x0 r rt)
        · rename_i he
          simp only [mk_G] at he
          rw [he] at hx
          simp only [Option.some.injEq, Prod.mk.injEq] at hs
          obtain ⟨_, rfl, _⟩ := hs
          exact wp_cond_false hx.bl_inv (hg β0 S0 w0 β S w tmps hb0 hn x0 r rt)
        · rename_i t he
          simp only [mk_G] at he
          rw [he] at hx
          split at hs
          · simp only [Option.some.injEq, Prod.mk.injEq] at hs
            obtain ⟨rfl, rfl, _⟩ := hs
            simp only [holds] at hq
            subst hq
            exact wp_cond_true hx.v_inv (hg β0 S0 w0 β S w tmps hb0 hn x0 r (lit _ hx.v_inv))
          · simp only [Option.some.injEq, Prod.mk.injEq] at hs
            obtain ⟨rfl, rfl, _⟩ := hs
            simp only [holds] at hq
            subst hq
            exact wp_cond_false hx.v_inv (hg β0 S0 w0 β S w tmps hb0 hn x0 r (lit _ hx.v_inv))
          · cases hs
        · cases hs
      | _ => cases hs

theorem allP_cons {q : Prop} {l : List Prop} (h : allP (q :: l)) : q ∧ allP l := by
  cases l with
  | nil => exact ⟨h, trivial⟩
  | cons a l => exact h

theorem run_ok (ht : TabOK E) (hm : E.P.follows .mixedOrders = true) {fn : Func} {R : AV → Heap → Prop} {h0 : Heap} : ∀ (n : Nat) (c : Cfg) (os : List Orc), allP (run (mk E) n c os).1 → Good E fn h0 (run (mk E) n c os).2.1 R → Good E fn h0 c R
  | 0, c, os, _, hg => hg
  | n + 1, c, os, hq, hg => by
    unfold run at hq hg
    cases hs : step (mk E) c os with
    | none => simp only [hs] at hg; exact hg
    | some x =>
      obtain ⟨q, c', os'⟩ := x
      cases q with
      | none =>
        simp only [hs] at hq hg
        exact step_ok ht hm hs trivial (run_ok ht hm n c' os' hq hg)
      | some q =>
        simp only [hs] at hq hg
        obtain ⟨h1, h2⟩ := allP_cons hq
        exact step_ok ht hm hs h1 (run_ok ht hm n c' os' h2 hg)

/-- One round of a loop. -/
theorem good_round {fn : Func} {R : AV → Heap → Prop} {h0 : Heap} {n : Nat} {c : Code} {k : List It} {ts : TS} {h : Heap} (hg : Good E fn h0 ⟨n, .code c :: .lp c :: k, ts, h⟩ R) : Good E fn h0 ⟨n, .lp c :: k, ts, h⟩ R := by
  intro β0 S0 w0 β S w tmps hb0 hn x0 r rt
  have := hg β0 S0 w0 β S w tmps hb0 hn x0 r rt
  simp only [kont, Exit.then] at this ⊢
  refine lpWp_round (wp_mono this fun e a w he => ?_)
  cases e <;> exact he

theorem below_some {m b i : Nat} (h : below m b = some i) : i = b ∧ b < m := by
  unfold below at h
  split at h
  · rename_i hb
    cases h
    exact ⟨rfl, Nat.le_of_ble_eq_true hb⟩
  · cases h

theorem below_lt {m b : Nat} (h : b < m) : below m b = some b := by
  have hb : Nat.blt b m = true := Nat.ble_eq_true_of_le h
  unfold below
  rw [hb]

/-- The first m blocks alone. -/
theorem Rel.first (r : Rel E h β S w) (m : Nat) : Rel E ((h.take m).map (renBlk (below m))) (β.take m) S w ∧
    (∀ (x : AV) (y : Value), RelV E.T h β w S x y → RelV E.T ((h.take m).map (renBlk (below m))) (β.take m) w S (ren (below m) x) y) := by
  have hget : ∀ (b : Nat) (x : Blk), ((h.take m).map (renBlk (below m)))[b]? = some x → b < m ∧ ∃ y, h[b]? = some y ∧ x = renBlk (below m) y := by
    intro b x hx
    simp only [List.getElem?_map, Option.map_eq_some_iff] at hx
    obtain ⟨y, h1, h2⟩ := hx
    rw [List.getElem?_take] at h1
    split at h1
    · rename_i hb; exact ⟨hb, y, h1, h2.symm⟩
    · cases h1
  have hgetB : ∀ (b : Nat) (k : Con), (β.take m)[b]? = some k → b < m ∧ β[b]? = some k := by
    intro b k hk
    rw [List.getElem?_take] at hk
    split at hk
    · rename_i hb; exact ⟨hb, hk⟩
    · cases hk
  have hB : ∀ b, b < m → (β.take m)[b]? = β[b]? := fun b hb => by rw [List.getElem?_take, if_pos hb]
  have hσ : ∀ (b i : Nat), below m b = some i → (β.take m)[i]? = β[b]? ∧ ∀ e xs sh, h[b]? = some (.row e xs sh) → ((h.take m).map (renBlk (below m)))[i]? = some (.row e xs sh) := by
    intro b i hi
    obtain ⟨rfl, hb⟩ := below_some hi
    exact ⟨hB _ hb, fun e xs sh h1 => by rw [List.getElem?_map, List.getElem?_take, if_pos hb, h1]; rfl⟩
  refine ⟨{
    len := by simp [r.len]
    box := fun b cs hb => ?_
    row := fun b e xs sh hb => ?_
    apart := fun b b' k k' g hb hb' hk hk' => r.apart b b' k k' g (hgetB b k hb).2 (hgetB b' k' hb').2 hk hk'
    lt := fun b k g hb hk => r.lt b k g (hgetB b k hb).2 hk
    stable := r.stable
    free := fun b k g a hb hk ha hag => ?_
    glob := r.glob }, ren_rel hσ⟩
  · obtain ⟨hbm, y, h1, h2⟩ := hget b _ hb
    obtain ⟨ds, rfl, rfl⟩ := renBlk_box h2.symm
    obtain ⟨g, vs, t, c1, c2, c3, c4⟩ := r.box b ds h1
    obtain ⟨q1, q2⟩ := renL_rel (T := E.T) (w := w) (S := S) hσ ds vs c3 (fun i x y hx hy => (c4 i x y hx hy).1)
    refine ⟨g, vs, t, by rw [hB b hbm]; exact c1, c2, q1, fun j x y hx hy => ⟨q2 j x y hx hy, ?_⟩⟩
    have hjl : j < ds.length := by rw [c3]; exact (List.getElem?_eq_some_iff.1 hy).1
    exact (c4 j _ y (List.getElem?_eq_getElem hjl) hy).2
  · obtain ⟨hbm, y, h1, h2⟩ := hget b _ hb
    have := renBlk_row h2.symm
    subst this
    obtain ⟨k, c1, c2⟩ := r.row b e xs sh h1
    exact ⟨k, by rw [hB b hbm]; exact c1, c2⟩
  · obtain ⟨hbm, hb2⟩ := hgetB b k hb
    obtain ⟨e, xs, c1, c2⟩ := r.free b k g a hb2 hk ha hag
    exact ⟨e, xs, (hσ b b (below_lt hbm)).2 e xs true c1, c2⟩

theorem Ext.first {h0 : Heap} {β0 : List Con} {S0 : Addr → Prop} {w0 : World} (x : Ext h0 β0 S0 w0 h β S w) (r : Rel E h β S w) {m : Nat} (hm : h0.length ≤ m) (hl : β0.length = h0.length) :
    Ext h0 β0 S0 w0 ((h.take m).map (renBlk (below m))) (β.take m) S w where
  box := fun b cs hb => by
    have hbl := (List.getElem?_eq_some_iff.1 hb).1
    obtain ⟨cs', h1⟩ := x.box b cs hb
    exact ⟨renL (below m) cs', by rw [List.getElem?_map, List.getElem?_take, if_pos (by omega), h1]; rfl⟩
  con := fun b g hb => by
    have hbl := (List.getElem?_eq_some_iff.1 hb).1
    rw [List.getElem?_take, if_pos (by omega)]
    exact x.con b g hb
  row := fun b e xs sh hb => by
    have hbl := (List.getElem?_eq_some_iff.1 hb).1
    obtain ⟨xs', sh', a1, a2, a3⟩ := x.row b e xs sh hb
    exact ⟨xs', sh', by rw [List.getElem?_map, List.getElem?_take, if_pos (by omega), a1]; rfl, a2, fun he => by rw [List.getElem?_take, if_pos (by omega)]; exact a3 he⟩
  S_le := x.S_le
  S_cell := x.S_cell
  S_new := x.S_new
  os := x.os
  tape := x.tape
  output := x.output
  size := x.size
  keep := x.keep
  new := fun b k g hb hk => by
    rw [List.getElem?_take] at hb
    split at hb
    · exact x.new b k g hb hk
    · cases hb

theorem mask_look (m : Nat) (ts : TS) : ∀ (live : List Nat) (t : Nat), look (mask live m ts) t = .un ∨ look (mask live m ts) t = ren (below m) (look ts t)
  | [], t => .inl rfl
  | a :: live, t => by
    simp only [mask, List.map_cons, look]
    split
    · rename_i hb
      have := Nat.eq_of_beq_eq_true hb
      subst this
      exact .inr rfl
    · exact mask_look m ts live t

/-- What is forgotten is not wanted. -/
theorem good_cut {fn : Func} {R : AV → Heap → Prop} {h0 : Heap} {c : Cfg} (live : List Nat) (m : Nat) (hm : h0.length ≤ m) (hg : Good E fn h0 (cut live m c) R) : Good E fn h0 c R := by
  intro β0 S0 w0 β S w tmps hb0 hn x0 r rt
  obtain ⟨r1, hv⟩ := r.first m
  refine hg β0 S0 w0 (β.take m) S w tmps hb0 hn (x0.first r hm hb0) r1 fun t => ?_
  rcases mask_look m c.ts live t with h1 | h1
  · simp only [cut]; rw [h1]; exact .d _ _ (.un _)
  · simp only [cut]; rw [h1]; exact hv _ _ (rt t)


def resSem (tmps : Array Value) : ResultVar → Sem Value
  | .tmp t => pure (tmps.getD t undef)
  | .cell a t => do loadVar t (← asAddr (tmps.getD a undef))

theorem results_eq (fn : Func) (tmps : Array Value) : results fn tmps = (do
    let vs ← fn.results.mapM (resSem tmps)
    pure (if h : vs.size = 1 then vs[0] else .tuple vs)) := by
  rfl

theorem retOne_ok (ht : TabOK E) (r : Rel E h β S w) (rt : RelTS E.T h β w S ts tmps) {x : ResultVar} {y : AV} (hx : retOne E ts h x = some y) :
    ∃ v, (resSem tmps x).run E.P w = .ok v w ∧ RelV E.T h β w S y v := by
  cases x with
  | tmp t =>
    simp only [retOne, Option.some.injEq] at hx
    subst hx
    exact ⟨_, rfl, rt t⟩
  | cell a t =>
    simp only [retOne] at hx
    have hra := rt a
    split at hx
    · rename_i b off hl
      rw [hl] at hra
      split at hx
      · rename_i cs hb
        split at hx
        · rename_i res hm hle
          have hle := Nat.le_of_ble_eq_true hle
          simp only [Option.some.injEq] at hx
          subst hx
          obtain ⟨g, vs, t', c1, c2, c3, c4⟩ := r.box b cs hb
          obtain ⟨i, d, z, tok⟩ := ht.at_ (mkv_ne hm)
          generalize hev : tmps.getD a undef = av at hra
          cases hra with
          | d _ _ hd => cases hd
          | p _ _ g2 hbb =>
            rw [c1] at hbb
            cases hbb
            have hp : PW (RelC E.T h β w S) (cs.drop off) (vs.drop off) := PW.drop ⟨c3, c4⟩ off
            have hrun := run_loadAt tok w g off ((vs.drop off).take (E.T t).size) (by simp [← c3]; omega) (fun j y hj => by
              rw [List.getElem?_take] at hj
              split at hj
              · rw [cell_box c2, ← List.getElem?_drop]; exact hj
              · cases hj)
            simp only [Instr.loadAt, Instr.sureAddr, Sem.run_bind, Sem.run_pure, Result.andThen_ok] at hrun
            refine ⟨_, ?_, mkv_rel hm (hp.take _)⟩
            simp only [resSem, hev, Sem.run_bind, asAddr, Sem.run_pure, Result.andThen_ok, hrun]
        · cases hx
      · cases hx
    · cases hx

theorem retAll_ok (ht : TabOK E) (r : Rel E h β S w) (rt : RelTS E.T h β w S ts tmps) : ∀ (l : List ResultVar) (ys : List AV), retAll E ts h l = some ys →
    ∃ vs : List Value, (l.mapM (resSem tmps)).run E.P w = .ok vs w ∧ PW (RelV E.T h β w S) ys vs
  | [], ys, hl => by
    simp only [retAll, Option.some.injEq] at hl
    subst hl
    exact ⟨[], by simp, PW.nil⟩
  | x :: l, ys, hl => by
    simp only [retAll] at hl
    split at hl
    · rename_i a b h1 h2
      simp only [Option.some.injEq] at hl
      subst hl
      obtain ⟨v, v1, v2⟩ := retOne_ok ht r rt h1
      obtain ⟨vs, w1, w2⟩ := retAll_ok ht r rt l b h2
      refine ⟨v :: vs, ?_, PW.cons v2 w2⟩
      simp only [List.mapM_cons, Sem.run_bind]
      rw [v1]
      simp only [Result.andThen_ok]
      rw [w1]
      simp only [Result.andThen_ok, Sem.run_pure]
    · cases hl

/-- The function returns. -/
theorem good_ret (ht : TabOK E) {fn : Func} {R : AV → Heap → Prop} {h0 : Heap} {n : Nat} {k : List It} {ts : TS} {h : Heap} {y : AV} (hv : retV E ts h fn.results.toList = some y) (hR : R y h) : Good E fn h0 ⟨n, .code .ret :: k, ts, h⟩ R := by
  intro β0 S0 w0 β S w tmps hb0 hn x0 r rt
  simp only at r rt x0
  simp only [kont, Exit.then]
  refine wp_ret ?_
  have key : ∀ v, (results fn tmps).run E.P w = .ok v w → RelV E.T h β w S y v → kont E.P k (bodyPost E.P fn (Post E h0 β0 S0 w0 R)) .ret ⟨tmps, []⟩ w := by
    intro v hrun hrel
    have hpost : bodyPost E.P fn (Post E h0 β0 S0 w0 R) .ret ⟨tmps, []⟩ w := ⟨rfl, v, hrun, y, h, β, S, v, rfl, hR, r, x0, hrel⟩
    have : ∀ k : List It, kont E.P k (bodyPost E.P fn (Post E h0 β0 S0 w0 R)) .ret ⟨tmps, []⟩ w := by
      intro k
      induction k with
      | nil => exact hpost
      | cons i k ih => cases i <;> simp only [kont, Exit.then, Exit.inBlock] <;> exact ih
    exact this k
  unfold retV at hv
  cases ha : retAll E ts h fn.results.toList with
  | none => simp [ha] at hv
  | some ys =>
    obtain ⟨vs, w1, w2⟩ := retAll_ok ht r rt _ ys ha
    have hrun : (results fn tmps).run E.P w = .ok (if hh : vs.toArray.size = 1 then vs.toArray[0] else .tuple vs.toArray) w := by
      rw [results_eq, Array.mapM_eq_mapM_toList]
      simp only [Sem.run_bind, Sem.run_map]
      rw [w1]
      simp only [Result.andThen_ok, Sem.run_pure]
    rw [ha] at hv
    split at hv
    · rename_i x hx
      cases hx
      cases hv
      have hvl := w2.1
      match vs, hvl, w2, hrun with
      | [v], _, w2, hrun =>
        refine key v ?_ w2.uncons.1
        rw [hrun]
        simp
      | [], hvl, _, _ => simp at hvl
      | _ :: _ :: _, hvl, _, _ => simp at hvl
    · rename_i xs hne hx
      cases hx
      cases hv
      refine key (.tuple vs.toArray) ?_ (.tup _ _ w2.1 w2.2)
      rw [hrun, dif_neg]
      intro h1
      have hl : ys.length = 1 := by rw [w2.1]; simpa using h1
      match ys, hl with
      | [a], _ => exact hne a rfl
    · rename_i hx
      cases hx

theorem argTS_look : ∀ (l : List AV) (i t : Nat), look (argTS i l) t = if i ≤ t then (l[t - i]?).getD .un else .un
  | [], i, t => by simp [argTS, look]
  | x :: l, i, t => by
    simp only [argTS, look]
    split
    · rename_i hb
      have := Nat.eq_of_beq_eq_true hb
      subst this
      simp
    · rename_i hb
      have hne : i ≠ t := by rintro rfl; simp [Nat.beq_refl] at hb
      rw [argTS_look l (i + 1) t]
      by_cases h1 : i ≤ t
      · rw [if_pos (by omega), if_pos h1, show t - i = (t - (i + 1)) + 1 by omega, List.getElem?_cons_succ]
      · rw [if_neg (by omega), if_neg h1]

/-- A function's contract out of its run. -/
theorem acalls_of_good {f : FuncId} {fn : Func} {c : Code} {args : List AV} {h : Heap} {R : AV → Heap → Prop} (hf : E.P.funcs[f]? = some fn) (hb : fn.body = some c) (hname : (fn.name == "runtime.NumGoroutine") = false) (hn : args.length ≤ fn.ntmps)
    (hg : Good E fn h ⟨fn.ntmps, [.code c], argTS 0 args, h⟩ R) : ACalls E f args h R := by
  refine fun β S w vs r hp => .inl ⟨⟨fn, hf, hname, by rw [hb]; rfl⟩, ?_⟩
  refine calls_of_wp hf hb ?_
  have hl := hp.1
  have := hg β S w β S w (vs.toArray ++ Array.replicate (fn.ntmps - vs.toArray.size) undef) r.len (by simp; omega) (Ext.refl _ _ _ _) r (fun t => ?_)
  · simp only [kont, Exit.then] at this
    exact this
  · simp only
    rw [argTS_look args 0 t]
    simp only [Nat.zero_le, if_true, Nat.sub_zero]
    by_cases ht : t < args.length
    · have hv : vs[t]? = some (vs[t]'(by omega)) := List.getElem?_eq_getElem _
      have hx : args[t]? = some args[t] := List.getElem?_eq_getElem ht
      have hgd : (vs.toArray ++ Array.replicate (fn.ntmps - vs.toArray.size) undef).getD t undef = vs[t]'(by omega) := by
        rw [Array.getD_eq_getD_getElem?, Array.getElem?_append_left (by simp; omega)]
        simp [hv]
      rw [hx, hgd]
      exact hp.2 t _ _ hx hv
    · rw [List.getElem?_eq_none (by omega)]
      exact .d _ _ (.un _)

/-- A contract whose result is data. -/
theorem acalls_shut {f : FuncId} {args : List AV} {h : Heap} {R : AV → Heap → Prop} (hc : ACalls E f args h (Shut h.length R)) : ACalls E f args h R := by
  refine fun β S w vs r hp => (hc β S w vs r hp).mono ?_
  rintro e w' ⟨y, h', β', S', v, he, ⟨ho, hR⟩, r', x', hv⟩
  obtain ⟨S1, ⟨e1, r1⟩, d1⟩ := frz_ok E y h' β' S' w' v r' hv ho
  obtain ⟨r2, _⟩ := r1.first h.length
  exact ⟨_, _, _, S1, v, he, hR, r2, (x'.trans e1).first r1 (Nat.le_refl _) r.len, .d _ _ d1⟩

theorem ACalls.mono {f : FuncId} {args : List AV} {h : Heap} {R R' : AV → Heap → Prop} (hc : ACalls E f args h R) (hr : ∀ r h, R r h → R' r h) : ACalls E f args h R' := by
  refine fun β S w vs r hp => (hc β S w vs r hp).mono ?_
  rintro e w' ⟨y, h', β', S', v, he, hR, r', x', hv⟩
  exact ⟨y, h', β', S', v, he, hr _ _ hR, r', x', hv⟩

end
end Go.AM

namespace Go.AM

def noTI : TI := ⟨.scalar, 0, 0, []⟩
def tabOf (l : List TI) (t : TypeId) : TI := l.getD t noTI

def TI.isNone (t : TI) : Bool := match t with
  | ⟨.scalar, 0, 0, []⟩ => true
  | _ => false

def tabChk (P : Program) (l : List TI) : Nat → Bool
  | 0 => true
  | n + 1 => (tiOk P (tabOf l) n || (tabOf l n).isNone) && tabChk P l n

theorem tabChk_at {P : Program} {l : List TI} : ∀ (n t : Nat), tabChk P l n = true → t < n → tiOk P (tabOf l) t = true ∨ tabOf l t = ⟨.scalar, 0, 0, []⟩
  | 0, t, _, ht => by omega
  | n + 1, t, h, ht => by
    simp only [tabChk, Bool.and_eq_true, Bool.or_eq_true] at h
    by_cases e : t = n
    · subst e
      rcases h.1 with h1 | h1
      · exact .inl h1
      · right
        unfold TI.isNone at h1
        split at h1
        · rename_i hx; exact hx
        · cases h1
    · exact tabChk_at n t h.2 (by omega)

theorem tabOK_of {P : Program} {l : List TI} {G : Nat → Option (List AV)} (h : tabChk P l l.length = true) : TabOK ⟨P, tabOf l, G⟩ := by
  intro t
  by_cases ht : t < l.length
  · exact tabChk_at l.length t h ht
  · right
    have : l[t]? = none := List.getElem?_eq_none (Nat.le_of_not_lt ht)
    simp only [tabOf, List.getD, this]
    rfl

/-- The end of a run: what is owed, what is handed back, the blocks that were lent. -/
def fin (E : Env) (fn : Func) (m n : Nat) (c : Cfg) (os : List Orc) : Option (List Prop × AV × Heap) :=
  match run E n c os with
  | (q, ⟨_, .code .ret :: _, ts, h⟩, []) => match retV E.toEnv0 ts h fn.results.toList with
    | some y => some ((match frzM y with | [] => q | _ :: _ => frzO h y :: q), frz h y, ((share h (frzM y)).take m).map (renBlk (below m)))
    | none => none
  | _ => none

theorem good_fin {E : Env0} (ht : TabOK E) (hmix : E.P.follows .mixedOrders = true) {fn : Func} {R : AV → Heap → Prop} {h0 : Heap} {c : Cfg} (n : Nat) (os : List Orc) {q : List Prop} {y : AV} {H : Heap} {m : Nat}
    (hfin : fin (mk E) fn m n c os = some (q, y, H)) (hq : allP q) (hR : R y H) : Good E fn h0 c (Shut m R) := by
  unfold fin at hfin
  split at hfin
  · rename_i q' n' k ts h' hrun
    split at hfin
    · rename_i y' hret
      simp only [Option.some.injEq, Prod.mk.injEq] at hfin
      obtain ⟨h1, h2, h3⟩ := hfin
      have hqo : allP q' ∧ frzO h' y' := by
        split at h1
        · rename_i hm
          subst h1
          exact ⟨hq, frzO_of_none y' hm⟩
        · subst h1
          obtain ⟨a, b⟩ := allP_cons hq
          exact ⟨b, a⟩
      refine run_ok ht hmix n c os (by rw [hrun]; exact hqo.1) ?_
      rw [hrun]
      exact good_ret ht hret ⟨hqo.2, by rw [h2, h3]; exact hR⟩
    · cases hfin
  · cases hfin

/-- A function's contract out of its whole run. -/
theorem acalls_fin {E : Env0} (ht : TabOK E) (hmix : E.P.follows .mixedOrders = true) {f : FuncId} {fn : Func} {c : Code} {args : List AV} {h : Heap} {R : AV → Heap → Prop} (hf : E.P.funcs[f]? = some fn) (hb : fn.body = some c)
    (hname : (fn.name == "runtime.NumGoroutine") = false) (hn : Nat.ble args.length fn.ntmps = true) (n : Nat) (os : List Orc) {q : List Prop} {y : AV} {H : Heap}
    (hfin : fin (mk E) fn h.length n ⟨fn.ntmps, [.code c], argTS 0 args, h⟩ os = some (q, y, H)) (hq : allP q) (hR : R y H) : ACalls E f args h R :=
  acalls_shut (acalls_of_good hf hb hname (Nat.le_of_ble_eq_true hn) (good_fin ht hmix n os hfin hq hR))


/-- The end of a run, its result as it stands, the heap whole. -/
def finK (E : Env) (fn : Func) (n : Nat) (c : Cfg) (os : List Orc) : Option (List Prop × AV × Heap) :=
  match run E n c os with
  | (q, ⟨_, .code .ret :: _, ts, h⟩, []) => match retV E.toEnv0 ts h fn.results.toList with
    | some y => some (q, y, h)
    | none => none
  | _ => none

theorem good_finK {E : Env0} (ht : TabOK E) (hmix : E.P.follows .mixedOrders = true) {fn : Func} {R : AV → Heap → Prop} {h0 : Heap} {c : Cfg} (n : Nat) (os : List Orc) {q : List Prop} {y : AV} {H : Heap}
    (hfin : finK (mk E) fn n c os = some (q, y, H)) (hq : allP q) (hR : R y H) : Good E fn h0 c R := by
  unfold finK at hfin
  split at hfin
  · rename_i q' n' k ts h' hrun
    split at hfin
    · rename_i y' hret
      simp only [Option.some.injEq, Prod.mk.injEq] at hfin
      obtain ⟨rfl, rfl, rfl⟩ := hfin
      refine run_ok ht hmix n c os (by rw [hrun]; exact hq) ?_
      rw [hrun]
      exact good_ret ht hret hR
    · cases hfin
  · cases hfin

theorem acalls_finK {E : Env0} (ht : TabOK E) (hmix : E.P.follows .mixedOrders = true) {f : FuncId} {fn : Func} {c : Code} {args : List AV} {h : Heap} {R : AV → Heap → Prop} (hf : E.P.funcs[f]? = some fn) (hb : fn.body = some c)
    (hname : (fn.name == "runtime.NumGoroutine") = false) (hn : Nat.ble args.length fn.ntmps = true) (n : Nat) (os : List Orc) {q : List Prop} {y : AV} {H : Heap}
    (hfin : finK (mk E) fn n ⟨fn.ntmps, [.code c], argTS 0 args, h⟩ os = some (q, y, H)) (hq : allP q) (hR : R y H) : ACalls E f args h R :=
  acalls_of_good hf hb hname (Nat.le_of_ble_eq_true hn) (good_finK ht hmix n os hfin hq hR)

/-- A run to where it stops, what is no more wanted forgotten. -/
theorem good_to {E : Env0} (ht : TabOK E) (hmix : E.P.follows .mixedOrders = true) {fn : Func} {R : AV → Heap → Prop} {h0 : Heap} {c c' : Cfg} (n : Nat) (os : List Orc) (live : List Nat) (m : Nat) {q : List Prop}
    (hm : Nat.ble h0.length m = true) (hq0 : (run (mk E) n c os).1 = q) (hc : cut live m (run (mk E) n c os).2.1 = c') (hq : allP q) (hg : Good E fn h0 c' R) : Good E fn h0 c R := by
  subst hq0
  subst hc
  exact run_ok ht hmix n c os hq (good_cut live m (Nat.le_of_ble_eq_true hm) hg)

end Go.AM

namespace Go.AM
open Go.RowKit
set_option linter.unusedSimpArgs false
set_option linter.unusedVariables false

/-- No guard, or one that is known to let it by. -/
def guardOn (all : List Oper) (o : Oper) (ts : TS) : Bool := match o.guard with
  | none => true
  | some (j, want) => match guardTmp all j with
    | none => false
    | some d => match look ts d with
      | .bl b => b == want
      | _ => false

/-- The call at which a run stands: the function, the arguments, the heap that is lent, what is owed. -/
def callAt (E : Env0) (c : Cfg) (lend : List Nat) : Option (FuncId × List AV × Heap × Prop) := match c.todo with
  | .ops all (o :: _) :: _ => match guardOn all o c.ts && dstOk c.n o.dst && distinct lend, o.op with
    | true, .call { callee := .value fo, args, .. } => match ev E.G c.ts fo with
      | .fn f caps => match lendH lend (share c.h (frzML (args.toList.map (ev E.G c.ts) ++ caps))) lend with
        | some hl => some (f, (args.toList.map (ev E.G c.ts) ++ caps).map (argV (idx lend) c.h), hl, frzQ (frzML (args.toList.map (ev E.G c.ts) ++ caps)) (frzOL c.h (args.toList.map (ev E.G c.ts) ++ caps)) True)
        | none => none
      | _ => none
    | _, _ => none
  | _ => none

/-- Behind that call. -/
def callBack (E : Env0) (c : Cfg) (lend : List Nat) (r : AV) (h' : Heap) : Cfg := match c.todo with
  | .ops all (o :: rest) :: k => match o.op with
    | .call { callee := .value fo, args, .. } => match ev E.G c.ts fo with
      | .fn _ caps => ⟨c.n, .ops all rest :: k, put c.ts o.dst (ren (back lend c.h.length) r), setAll (share c.h (frzML (args.toList.map (ev E.G c.ts) ++ caps))) lend ((h'.take lend.length).map (renBlk (back lend c.h.length))) ++ (h'.drop lend.length).map (renBlk (back lend c.h.length))⟩
      | _ => c
    | _ => c
  | _ => c

theorem wanted_on {E : Env0} {h : Heap} {β : List Con} {S : Addr → Prop} {w : World} {tmps : Array Value} {ts : TS} {o : Oper} {all : List Oper} (rt : RelTS E.T h β w S ts tmps) (hg : guardOn all o ts = true) :
    Region.wanted o (yielded all.toArray tmps) = true := by
  unfold guardOn at hg
  unfold Region.wanted
  split at hg
  · rename_i h1; rw [h1]
  · rename_i j want h1
    rw [h1]
    simp only
    split at hg
    · cases hg
    · rename_i d hd
      have hr := rt d
      split at hg
      · rename_i b hl
        rw [hl] at hr
        rw [yielded_of hd hr.bl_inv]
        cases b <;> cases want <;> first | rfl | cases hg
      · cases hg

theorem good_call {E : Env0} {fn : Func} {h0 : Heap} {c : Cfg} {R R' : AV → Heap → Prop} (lend : List Nat) {f : FuncId} {args : List AV} {hl : Heap} {q : Prop} (hc : callAt E c lend = some (f, args, hl, q)) (hq : q) (hC : ACalls E f args hl R')
    (hg : ∀ r h', R' r h' → lend.length ≤ h'.length ∧ Good E fn h0 (callBack E c lend r h') R) : Good E fn h0 c R := by
  intro β0 S0 w0 β S w tmps hb0 hn x0 r rt
  obtain ⟨n, todo, ts, h⟩ := c
  simp only at hn x0 r rt ⊢
  unfold callAt at hc
  simp only at hc
  split at hc
  · rename_i all o rest k
    split at hc
    · rename_i fo as tys hchk hop
      simp only [Bool.and_eq_true] at hchk
      obtain ⟨⟨hgo, hd⟩, hdis⟩ := hchk
      split at hc
      · rename_i f' caps hfe
        split at hc
        · rename_i hl' hlend
          simp only [Option.some.injEq, Prod.mk.injEq] at hc
          obtain ⟨rfl, rfl, rfl, rfl⟩ := hc
          simp only [kont, Exit.then]
          refine wpList_step fun K hK => ?_
          rw [if_pos (wanted_on rt hgo)]
          refine op_call_gen r rt (by rw [hn]; exact hd) hop hfe hlend hdis (frzQ_OL hq).1 hC (fun res h' hR => ?_)
          obtain ⟨hm, hgood⟩ := hg res h' hR
          refine ⟨hm, ⟨fun β' S' w' tmps' hsz r' e' rt' => hK _ _ ?_⟩⟩
          have := hgood β0 S0 w0 β' S' w' tmps' hb0
          simp only [callBack, hop, hfe] at this
          have := this (by rw [hsz]; exact hn) (x0.trans e') r' rt'
          simp only [kont, Exit.then] at this
          exact this
        · cases hc
      · cases hc
    · cases hc
  · cases hc

/-- A run that stands at 's == nil' ('true') or 's != nil'. -/
def nilAt (E : Env0) (c : Cfg) : Option (List (List AV) × Bool) := match c.todo with
  | .ops all (o :: _) :: _ => match guardOn all o c.ts && dstOk c.n o.dst, o.op with
    | true, .binOp op t x (.const (.slice none 0 0)) _ => match (E.T t).kind, ev E.G c.ts x, op with
      | .slice _, .sl xs, .eql => some (xs, true)
      | .slice _, .sl xs, .neq => some (xs, false)
      | _, _, _ => none
    | _, _ => none
  | _ => none

def nilBack (c : Cfg) (b : Bool) : Cfg := match c.todo with
  | .ops all (o :: rest) :: k => ⟨c.n, .ops all rest :: k, put c.ts o.dst (.v (.bool b)), c.h⟩
  | _ => c

theorem run_equal_slice_nil {P : Program} (w : World) {t e : TypeId} (hu : P.underlying t = some (.slice e)) (A : Option Addr) (n c : Nat) : (Op.equal t (.slice A n c) (.slice none 0 0)).run P w = .ok A.isNone w := by
  unfold Op.equal Op.maxDepth
  unfold Op.equalIn
  cases A <;> simp only [Sem.run_bind, run_underlying hu, Result.andThen_ok, Sem.run_pure] <;> rfl

theorem eqGuard_slice (P : Program) (op : BinOp) (t : TypeId) (x y : Operand) (a b : Option Addr) (n m c d : Nat) (w : World) : (eqGuard op t x y (.slice a n c) (.slice b m d)).run P w = .ok () w := by
  unfold eqGuard
  split <;> rfl

theorem good_nil {E : Env0} (ht : TabOK E) {fn : Func} {h0 : Heap} {c : Cfg} {R : AV → Heap → Prop} {xs : List (List AV)} {e : Bool} (hc : nilAt E c = some (xs, e)) (hg : ∀ b : Bool, (xs ≠ [] → b = false) → Good E fn h0 (nilBack c (b == e)) R) : Good E fn h0 c R := by
  intro β0 S0 w0 β S w tmps hb0 hn x0 r rt
  obtain ⟨n, todo, ts, h⟩ := c
  simp only at hn x0 r rt ⊢
  unfold nilAt at hc
  simp only at hc
  split at hc
  · rename_i all o rest k
    split at hc
    · rename_i op t x ty hchk hop
      simp only [Bool.and_eq_true] at hchk
      obtain ⟨hgo, hd⟩ := hchk
      have hx := ev_ok (ds := []) r rt x
      simp only [kont, Exit.then]
      have fin : ∀ (el : TypeId) (hk : (E.T t).kind = .slice el) (he : ev E.G ts x = .sl xs) (hop2 : op = if e then .eql else .neq), wpList E.P all.toArray (kont E.P k (bodyPost E.P fn (Post E h0 β0 S0 w0 R))) (o :: rest) ⟨tmps, []⟩ w := by
        intro el hk he hop2
        rw [he] at hx
        obtain ⟨ti, dd, z, tok⟩ := ht.at_ (ne_of_kind (by rw [hk]; simp) : E.T t ≠ _)
        obtain ⟨rfl, _⟩ := tok.slice_ hk
        refine wpList_step fun K hK => ?_
        rw [if_pos (wanted_on rt hgo)]
        generalize hev : Act.eval ⟨tmps, []⟩ x = y at hx
        cases hx with
        | d _ _ hd1 => cases hd1 with
          | sl _ A cap gg off size f f1 f2 f3 f4 f5 f6 =>
            have hrun : (execOp (Act.eval ⟨tmps, []⟩) o).run E.P w = .ok (.value (.bool (A.isNone == e))) w := by
              have h1 := eqGuard_slice E.P op t x (.const (.slice none 0 0)) A none xs.length 0 cap 0 w
              have h2 := run_equal_slice_nil (P := E.P) w tok.und A xs.length cap
              have hcst : Act.eval ⟨tmps, []⟩ (.const (.slice none 0 0)) = .slice none 0 0 := rfl
              cases e
              · simp only [Bool.false_eq_true, if_false] at hop2
                subst hop2
                simp only [execOp, hop, hev, hcst, Sem.run_bind, h1, Result.andThen_ok, binOp, h2, Sem.run_pure]
                cases A.isNone <;> rfl
              · simp only [if_true] at hop2
                subst hop2
                simp only [execOp, hop, hev, hcst, Sem.run_bind, h1, Result.andThen_ok, binOp, h2, Sem.run_pure]
                cases A.isNone <;> rfl
            unfold Oper.wp
            rw [hrun, Oper.upon_value, put_defers]
            refine hK _ _ ?_
            have := hg A.isNone (fun hne => by rw [f1 hne]; rfl) β0 S0 w0 β S w (Act.put ⟨tmps, []⟩ o.dst (.bool (A.isNone == e))).tmps hb0 (by simp only [nilBack]; rw [put_size]; exact hn) x0 r (rt.put (by rw [hn]; exact hd) (relV_bool _))
            simp only [nilBack, kont, Exit.then] at this
            exact this
      split at hc
      · rename_i el xs' hk he
        simp only [Option.some.injEq, Prod.mk.injEq] at hc
        obtain ⟨rfl, rfl⟩ := hc
        exact fin el hk he rfl
      · rename_i el xs' hk he
        simp only [Option.some.injEq, Prod.mk.injEq] at hc
        obtain ⟨rfl, rfl⟩ := hc
        exact fin el hk he rfl
      · cases hc
    · cases hc
  · cases hc


/-- One round more. -/
def unroll (c : Cfg) : Cfg := match c.todo with
  | .lp b :: k => ⟨c.n, .code b :: .lp b :: k, c.ts, c.h⟩
  | _ => c

theorem good_unroll {E : Env0} {fn : Func} {h0 : Heap} {c : Cfg} {R : AV → Heap → Prop} (hg : Good E fn h0 (unroll c) R) : Good E fn h0 c R := by
  unfold unroll at hg
  split at hg
  · rename_i b k hk
    obtain ⟨n, todo, ts, h⟩ := c
    simp only at hk
    subst hk
    exact good_round hg
  · exact hg

/-- The j-th loop of a function, with such slots and such a heap. -/
noncomputable def loopAt (fn : Func) (j : Nat) (ts : TS) (h : Heap) : Cfg := ⟨fn.ntmps, (conts (fn.body.getD .skip) []).getD j [], ts, h⟩

/-- A pure contract by way of a loop: the run to where it stops, and on from there. -/
theorem acalls_to {E : Env0} (ht : TabOK E) (hmix : E.P.follows .mixedOrders = true) {f : FuncId} {fn : Func} {c : Code} {args : List AV} {h : Heap} {R : AV → Heap → Prop} (hf : E.P.funcs[f]? = some fn) (hb : fn.body = some c)
    (hname : (fn.name == "runtime.NumGoroutine") = false) (hn : Nat.ble args.length fn.ntmps = true) (n : Nat) (os : List Orc) (live : List Nat) (m : Nat) {q : List Prop} {c' : Cfg} (hm : Nat.ble h.length m = true)
    (hq0 : (run (mk E) n ⟨fn.ntmps, [.code c], argTS 0 args, h⟩ os).1 = q) (hc : cut live m (run (mk E) n ⟨fn.ntmps, [.code c], argTS 0 args, h⟩ os).2.1 = c') (hq : allP q) (hg : Good E fn h c' (Shut h.length R)) : ACalls E f args h R :=
  acalls_shut (acalls_of_good hf hb hname (Nat.le_of_ble_eq_true hn) (good_to ht hmix n os live m hm hq0 hc hq hg))

end Go.AM

namespace Go.AM

theorem Rel.nilRow {E : Env0} {h : Heap} {β : List Con} {S : Addr → Prop} {w : World} (r : Rel E h β S w) (e : TypeId) (a : Option Addr) :
    Ext h β S w (h ++ [Blk.row e [] false]) (β ++ [.nil a]) S w ∧ Rel E (h ++ [Blk.row e [] false]) (β ++ [.nil a]) S w :=
  r.newRow e [] false (.nil a) ⟨rfl, rfl, rfl, Nat.le_refl _, fun _ _ => rfl⟩ (fun g hg => by cases hg) rfl

theorem nl_slice {T : TypeId → TI} {h : Heap} {β : List Con} {S : Addr → Prop} {w : World} {v : Value} (hv : RelV T h β w S .nl v) : ∃ a, v = .slice a 0 0 := by
  cases hv with
  | d _ _ hd => cases hd
  | nl a => exact ⟨a, rfl⟩

theorem Rel.ownNil {E : Env0} {h : Heap} {β : List Con} {S : Addr → Prop} {w : World} (r : Rel E h β S w) (e : TypeId) (a : Option Addr) :
    RelV E.T (h ++ [Blk.row e [] false]) (β ++ [.nil a]) w S (.own h.length 0) (.slice a 0 0) :=
  .own _ _ _ e [] false (getElem?_append_new _ _) (Nat.le_refl _) (fun _ => by rw [← r.len, getElem?_append_new]; rfl) rfl

theorem good_own {E : Env0} {fn : Func} {h0 : Heap} {c : Cfg} {R : AV → Heap → Prop} (t : Nat) (e : TypeId) (hc : look c.ts t = .nl)
    (hg : Good E fn h0 ⟨c.n, c.todo, (t, .own c.h.length 0) :: c.ts, c.h ++ [Blk.row e [] false]⟩ R) : Good E fn h0 c R := by
  intro β0 S0 w0 β S w tmps hb0 hn x0 r rt
  have ht := rt t
  rw [hc] at ht
  obtain ⟨a, ha⟩ := nl_slice ht
  obtain ⟨x1, r1⟩ := r.nilRow e a
  refine hg β0 S0 w0 _ S w tmps hb0 hn (x0.trans x1) r1 fun t' => ?_
  simp only [look]
  cases hb : Nat.beq t t' with
  | true =>
    have := Nat.eq_of_beq_eq_true hb
    subst this
    simp only
    rw [ha]
    exact r.ownNil e a
  | false => exact (rt t').ext x1

theorem good_retOwn {E : Env0} {fn : Func} {h0 H : Heap} {c : Cfg} {R : AV → Heap → Prop} (e : TypeId) (hg : Good E fn h0 c fun r h => r = .nl ∧ h = H)
    (hR : R (.own H.length 0) (H ++ [Blk.row e [] false])) : Good E fn h0 c R := by
  intro β0 S0 w0 β S w tmps hb0 hn x0 r rt
  refine kont_mono (bodyPost_mono fun en w' hp => ?_) _ _ _ _ (hg β0 S0 w0 β S w tmps hb0 hn x0 r rt)
  obtain ⟨y, h', β', S', v, he, ⟨rfl, rfl⟩, r', x', hv⟩ := hp
  obtain ⟨a, rfl⟩ := nl_slice hv
  obtain ⟨x1, r1⟩ := r'.nilRow e a
  exact ⟨_, _, _, S', _, he, hR, r1, x'.trans x1, r'.ownNil e a⟩

theorem ext_setBox {h : Heap} {β : List Con} {S : Addr → Prop} {w : World} {b : Nat} {cs : List AV} (hb : h[b]? = some (.box cs)) (cs' : List AV) : Ext h β S w (h.set b (.box cs')) β S w :=
  { Ext.refl h β S w with
    box := fun b' cs1 h1 => by
      by_cases hbb : b = b'
      · subst hbb
        exact ⟨cs', by rw [List.getElem?_set_self (List.getElem?_eq_some_iff.1 hb).1]⟩
      · exact ⟨cs1, by rw [List.getElem?_set_ne hbb]; exact h1⟩
    row := fun b' e xs sh h1 => by
      have hbb : b ≠ b' := fun e => by subst e; rw [hb] at h1; cases h1
      exact ⟨xs, sh, by rw [List.getElem?_set_ne hbb]; exact h1, Nat.le_refl _, fun _ => rfl⟩ }

theorem Rel.setBox {E : Env0} {h : Heap} {β : List Con} {S : Addr → Prop} {w : World} (r : Rel E h β S w) {b : Nat} {cs : List AV} (hb : h[b]? = some (.box cs)) (cs' : List AV)
    (hc : ∀ (g : Nat) (vs : List Value) (t : TypeId), β[b]? = some (.box g) → w.heap[g]? = some (.cells vs.toArray t (0, 0)) → cs.length = vs.length → (∀ (i : Nat) (x : AV) (y : Value), cs[i]? = some x → vs[i]? = some y → RelV E.T h β w S x y ∧ y.oneCell' = true) →
      cs'.length = vs.length ∧ ∀ (i : Nat) (x : AV) (y : Value), cs'[i]? = some x → vs[i]? = some y → RelV E.T h β w S x y ∧ y.oneCell' = true) : Rel E (h.set b (.box cs')) β S w := by
  have x := ext_setBox (β := β) (S := S) (w := w) hb cs'
  have ne : ∀ {b' : Nat} {e : TypeId} {xs : List (List AV)} {sh : Bool}, (h.set b (.box cs'))[b']? = some (.row e xs sh) → b ≠ b' ∧ h[b']? = some (.row e xs sh) := by
    intro b' e xs sh h1
    by_cases hbb : b = b'
    · subst hbb
      rw [List.getElem?_set_self (List.getElem?_eq_some_iff.1 hb).1] at h1
      cases h1
    · rw [List.getElem?_set_ne hbb] at h1
      exact ⟨hbb, h1⟩
  refine { r with len := by simpa using r.len, box := ?_, row := fun b' e xs sh h1 => r.row b' e xs sh (ne h1).2, free := ?_ }
  · intro b' cs1 h1
    by_cases hbb : b = b'
    · subst hbb
      rw [List.getElem?_set_self (List.getElem?_eq_some_iff.1 hb).1] at h1
      cases h1
      obtain ⟨g, vs, t, h2, h3, h4, h5⟩ := r.box b cs hb
      obtain ⟨h6, h7⟩ := hc g vs t h2 h3 h4 h5
      exact ⟨g, vs, t, h2, h3, h6, fun i y z hy hz => ⟨(h7 i y z hy hz).1.ext x, (h7 i y z hy hz).2⟩⟩
    · rw [List.getElem?_set_ne hbb] at h1
      obtain ⟨g, vs, t, h2, h3, h4, h5⟩ := r.box b' cs1 h1
      exact ⟨g, vs, t, h2, h3, h4, fun i y z hy hz => ⟨(h5 i y z hy hz).1.ext x, (h5 i y z hy hz).2⟩⟩
  · intro b' k g a h1 h2 h3 h4
    obtain ⟨e, xs, h5, h6⟩ := r.free b' k g a h1 h2 h3 h4
    have hbb : b ≠ b' := fun e => by subst e; rw [hb] at h5; cases h5
    exact ⟨e, xs, by rw [List.getElem?_set_ne hbb]; exact h5, h6⟩

/-- The same for a slice in a box. -/
theorem good_ownBox {E : Env0} {fn : Func} {h0 : Heap} {c : Cfg} {R : AV → Heap → Prop} (b i : Nat) (e : TypeId) {cs : List AV} (hb : c.h[b]? = some (.box cs)) (hi : cs[i]? = some .nl)
    (hg : Good E fn h0 ⟨c.n, c.todo, c.ts, (c.h ++ [Blk.row e [] false]).set b (.box (cs.set i (.own c.h.length 0)))⟩ R) : Good E fn h0 c R := by
  intro β0 S0 w0 β S w tmps hb0 hn x0 r rt
  obtain ⟨g, vs, t, h2, h3, h4, h5⟩ := r.box b cs hb
  have hil : i < vs.length := by rw [← h4]; exact (List.getElem?_eq_some_iff.1 hi).1
  have hv := h5 i .nl vs[i] hi (by simp [hil])
  obtain ⟨a, ha⟩ := nl_slice hv.1
  obtain ⟨x1, r1⟩ := r.nilRow e a
  have hb1 : (c.h ++ [Blk.row e [] false])[b]? = some (.box cs) := by rw [List.getElem?_append_left (List.getElem?_eq_some_iff.1 hb).1]; exact hb
  have x2 := ext_setBox (β := β ++ [.nil a]) (S := S) (w := w) hb1 (cs.set i (.own c.h.length 0))
  have r2 := r1.setBox hb1 (cs.set i (.own c.h.length 0)) (fun g' vs' t' e2 e3 e4 e5 => by
    refine ⟨by simpa using e4, fun j x y hx hy => ?_⟩
    by_cases hij : i = j
    · subst hij
      rw [List.getElem?_set_self (List.getElem?_eq_some_iff.1 hi).1] at hx
      cases hx
      have := e5 i .nl y hi hy
      refine ⟨?_, this.2⟩
      have hg : (β ++ [Con.nil a])[b]? = some (.box g) := x1.con b g h2
      rw [hg] at e2
      cases e2
      rw [h3] at e3
      have hvs : vs = vs' := by
        have e6 : vs.toArray = vs'.toArray := by injection e3 with e3; injection e3
        simpa using congrArg Array.toList e6
      subst hvs
      have : y = vs[i] := by
        rw [List.getElem?_eq_getElem hil] at hy
        cases hy
        rfl
      rw [this, ha]
      exact r.ownNil e a
    · rw [List.getElem?_set_ne hij] at hx
      exact e5 j x y hx hy)
  exact hg β0 S0 w0 _ S w tmps hb0 hn ((x0.trans x1).trans x2) r2 fun t' => ((rt t').ext x1).ext x2


/-- The same, and what is not wanted is forgotten. -/
theorem good_ownCut {E : Env0} {fn : Func} {h0 : Heap} {c c' : Cfg} {R : AV → Heap → Prop} (t : Nat) (e : TypeId) (live : List Nat) (m : Nat) (hc : look c.ts t = .nl) (hm : Nat.ble h0.length m = true)
    (he : cut live m ⟨c.n, c.todo, (t, .own c.h.length 0) :: c.ts, c.h ++ [Blk.row e [] false]⟩ = c') (hg : Good E fn h0 c' R) : Good E fn h0 c R :=
  good_own t e hc (good_cut live m (Nat.le_of_ble_eq_true hm) (he ▸ hg))

theorem good_ownBoxCut {E : Env0} {fn : Func} {h0 : Heap} {c c' : Cfg} {R : AV → Heap → Prop} (b i : Nat) (e : TypeId) (live : List Nat) (m : Nat) {cs : List AV} (hb : c.h[b]? = some (.box cs)) (hi : cs[i]? = some .nl) (hm : Nat.ble h0.length m = true)
    (he : cut live m ⟨c.n, c.todo, c.ts, (c.h ++ [Blk.row e [] false]).set b (.box (cs.set i (.own c.h.length 0)))⟩ = c') (hg : Good E fn h0 c' R) : Good E fn h0 c R :=
  good_ownBox b i e hb hi (good_cut live m (Nat.le_of_ble_eq_true hm) (he ▸ hg))

theorem good_blCut {E : Env0} {fn : Func} {h0 : Heap} {c c' : Cfg} {R : AV → Heap → Prop} (t : Nat) (b : Bool) (live : List Nat) (m : Nat) (hc : look c.ts t = .bl b) (hm : Nat.ble h0.length m = true)
    (he : cut live m ⟨c.n, c.todo, (t, .v (.bool b)) :: c.ts, c.h⟩ = c') (hg : Good E fn h0 c' R) : Good E fn h0 c R := by
  have hg' := good_cut live m (Nat.le_of_ble_eq_true hm) (he ▸ hg)
  intro β0 S0 w0 β S w tmps hb0 hn x0 r rt
  refine hg' β0 S0 w0 β S w tmps hb0 hn x0 r fun t' => ?_
  simp only [look]
  cases hb : Nat.beq t t' with
  | true =>
    have := Nat.eq_of_beq_eq_true hb
    subst this
    have ht := rt t
    rw [hc] at ht
    rw [ht.bl_inv]
    exact relV_bool _
  | false => exact rt t'

theorem good_blBoxCut {E : Env0} {fn : Func} {h0 : Heap} {c c' : Cfg} {R : AV → Heap → Prop} (b i : Nat) (x : Bool) (live : List Nat) (m : Nat) {cs : List AV} (hb : c.h[b]? = some (.box cs)) (hi : cs[i]? = some (.bl x)) (hm : Nat.ble h0.length m = true)
    (he : cut live m ⟨c.n, c.todo, c.ts, c.h.set b (.box (cs.set i (.v (.bool x))))⟩ = c') (hg : Good E fn h0 c' R) : Good E fn h0 c R := by
  have hg' := good_cut live m (Nat.le_of_ble_eq_true hm) (he ▸ hg)
  intro β0 S0 w0 β S w tmps hb0 hn x0 r rt
  have x2 := ext_setBox (β := β) (S := S) (w := w) hb (cs.set i (.v (.bool x)))
  have r2 := r.setBox hb (cs.set i (.v (.bool x))) (fun g' vs' t' e2 e3 e4 e5 => by
    refine ⟨by simpa using e4, fun j x' y hx hy => ?_⟩
    by_cases hij : i = j
    · subst hij
      rw [List.getElem?_set_self (List.getElem?_eq_some_iff.1 hi).1] at hx
      cases hx
      have := e5 i (.bl x) y hi hy
      refine ⟨?_, this.2⟩
      rw [this.1.bl_inv]
      exact relV_bool _
    · rw [List.getElem?_set_ne hij] at hx
      exact e5 j x' y hx hy)
  exact hg' β0 S0 w0 β S w tmps hb0 hn (x0.trans x2) r2 fun t' => (rt t').ext x2

theorem good_same {E : Env0} {fn : Func} {h0 : Heap} {n : Nat} {todo : List It} {ts ts' : TS} {h h' : Heap} {R : AV → Heap → Prop} (e1 : ts = ts') (e2 : h = h') (hg : Good E fn h0 ⟨n, todo, ts', h'⟩ R) : Good E fn h0 ⟨n, todo, ts, h⟩ R := by
  subst e1; subst e2; exact hg

end Go.AM

namespace Go.AM

structure St where
  o : List Orc
  p : List Prop
  h : allP p

def orcs : List St → List Orc
  | [] => []
  | s :: r => s.o ++ orcs r
def props : List St → List Prop
  | [] => []
  | s :: r => s.p ++ props r

theorem allP_app : ∀ {a b : List Prop}, allP a → allP b → allP (a ++ b)
  | [], _, _, hb => hb
  | [_], [], ha, _ => ha
  | [_], _ :: _, ha, hb => ⟨ha, hb⟩
  | _ :: q :: r, _, ha, hb => ⟨ha.1, allP_app (a := q :: r) ha.2 hb⟩

theorem allP_props : ∀ l : List St, allP (props l)
  | [] => trivial
  | s :: r => allP_app s.h (allP_props r)

/-- a branch, a guard, a pick -/
def sb {c b : Bool} (h : c = b) : St := ⟨[.b b], [c = b], h⟩
/-- a number -/
def si {e n : Int} (h : e = n) : St := ⟨[.i n], [e = n], h⟩
/-- an element of a slice -/
def se {xs : List (List AV)} {i : Int} {c : List AV} {n : Nat} (h : ElAt xs i c n) : St := ⟨[.el c], [ElAt xs i c n], h⟩
/-- an element of an array -/
def sa {cs : List AV} {i : Int} {n : Nat} {c : List AV} {k : Nat} (h : ArrAt cs i n c k) : St := ⟨[.el c], [ArrAt cs i n c k], h⟩
/-- a byte -/
def sy {s : ByteArray} {i n : Int} (h : ByteAt s i n) : St := ⟨[.i n], [ByteAt s i n], h⟩
/-- a call that borrows nothing -/
def sc {E : Env0} {f : FuncId} {args : List AV} {r : AV} {h' : Heap} (h : ACallsTo E f args [] r h') : St := ⟨[.call [] r h'], [ACallsTo E f args [] r h'], h⟩
/-- a call that borrows blocks -/
def sl {E : Env0} {f : FuncId} {args : List AV} {hl : Heap} {r : AV} {h' : Heap} (lend : List Nat) (h : ACallsTo E f args hl r h') : St := ⟨[.call lend r h'], [ACallsTo E f args hl r h'], h⟩
/-- a call that is handed rows as data -/
def sk {E : Env0} {f : FuncId} {args : List AV} {hl : Heap} {r : AV} {h' : Heap} {p : Prop} (hp : p) (lend : List Nat) (h : ACallsTo E f args hl r h') : St := ⟨[.call lend r h'], [p ∧ ACallsTo E f args hl r h'], ⟨hp, h⟩⟩
/-- the same call, its arguments spelled otherwise -/
theorem conv {E : Env0} {f : FuncId} {args args' : List AV} {hl hl' : Heap} {r : AV} {h' : Heap} (h : ACallsTo E f args' hl' r h') (e1 : args = args') (e2 : hl = hl') : ACallsTo E f args hl r h' := by
  subst e1; subst e2; exact h
/-- owed, without an oracle -/
def sq {p : Prop} (h : p) : St := ⟨[], [p], h⟩
/-- any oracle -/
def sx (o : Orc) {p : Prop} (h : p) : St := ⟨[o], [p], h⟩

/-- a guard that lets its operation by: that owes nothing; that owes what s says -/
def sg {c b : Bool} (h : c = b) : St := ⟨[.b b], [c = b ∧ True], ⟨h, trivial⟩⟩
def so {c b : Bool} (h : c = b) (s : St) : St := ⟨.b b :: s.o, [c = b ∧ allP s.p], ⟨h, s.h⟩⟩

def drawO : List (Nat × List St) → List (Nat × List Orc)
  | [] => []
  | (i, l) :: r => (i, orcs l) :: drawO r
def drawP : List (Nat × List St) → List St
  | [] => []
  | (_, l) :: r => l ++ drawP r
/-- a region that draws its order -/
def sd (l : List (Nat × List St)) : St := ⟨[.draw (drawO l)], [allP (props (drawP l))], allP_props _⟩

def sameN (p : Prop) (ts : TS) (h : Heap) : Nat → Prop
  | 0 => True
  | n + 1 => (p ∧ ts = ts ∧ h = h) ∧ sameN p ts h n
theorem sameN_ok {p : Prop} (hp : p) (ts : TS) (h : Heap) : ∀ n, sameN p ts h n
  | 0 => trivial
  | n + 1 => ⟨⟨hp, rfl, rfl⟩, sameN_ok hp ts h n⟩
/-- a region that draws its order, where n + 1 further orders come to the same -/
def sdm (l : List (Nat × List St)) (n : Nat) (ts : TS) (h : Heap) : St := ⟨[.draw (drawO l)], [allP (props (drawP l)) ∧ sameN (allP (props (drawP l))) ts h (n + 1)], ⟨allP_props _, sameN_ok (allP_props _) ts h _⟩⟩

/-- The whole run of a function that borrows nothing. -/
theorem walk {E : Env0} (ht : TabOK E) (hmix : E.P.follows .mixedOrders = true) {f : FuncId} {fn : Func} {c : Code} {args : List AV} {r y : AV} (hf : E.P.funcs[f]? = some fn) (hb : fn.body = some c) (hname : (fn.name == "runtime.NumGoroutine") = false)
    (hn : Nat.ble args.length fn.ntmps = true) (n : Nat) (l : List St) (hfin : fin (mk E) fn 0 n ⟨fn.ntmps, [.code c], argTS 0 args, []⟩ (orcs l) = some (props l, y, [])) (hr : y = r) : ACallsTo E f args [] r [] :=
  acalls_fin ht hmix hf hb hname hn n (orcs l) hfin (allP_props l) ⟨hr, rfl⟩

/-- The whole run of a function that borrows blocks. -/
theorem walkH {E : Env0} (ht : TabOK E) (hmix : E.P.follows .mixedOrders = true) {f : FuncId} {fn : Func} {c : Code} {args : List AV} {h : Heap} {r y : AV} {H H' : Heap} (hf : E.P.funcs[f]? = some fn) (hb : fn.body = some c) (hname : (fn.name == "runtime.NumGoroutine") = false)
    (hn : Nat.ble args.length fn.ntmps = true) (n : Nat) (l : List St) (hfin : fin (mk E) fn h.length n ⟨fn.ntmps, [.code c], argTS 0 args, h⟩ (orcs l) = some (props l, y, H)) (hr : y = r ∧ H = H') : ACallsTo E f args h r H' :=
  acalls_fin ht hmix hf hb hname hn n (orcs l) hfin (allP_props l) hr

/-- A run to where it stops, and what is forgotten there. -/
def upto (E : Env) (live : List Nat) (m n : Nat) (c : Cfg) (os : List Orc) : List Prop × Cfg := match run E n c os with
  | (q, c', _) => (q, cut live m c')

theorem toLoop {E : Env0} (ht : TabOK E) (hmix : E.P.follows .mixedOrders = true) {fn : Func} {R : AV → Heap → Prop} {h0 : Heap} {c c' : Cfg} (n : Nat) (l : List St) (live : List Nat) (m : Nat) (hm : Nat.ble h0.length m = true)
    (hu : upto (mk E) live m n c (orcs l) = (props l, c')) (hg : Good E fn h0 c' R) : Good E fn h0 c R := by
  unfold upto at hu
  have h1 : (run (mk E) n c (orcs l)).1 = props l := by
    have := congrArg Prod.fst hu
    exact this
  have h2 : cut live m (run (mk E) n c (orcs l)).2.1 = c' := congrArg Prod.snd hu
  exact good_to ht hmix n (orcs l) live m hm h1 h2 (allP_props l) hg

theorem toRet {E : Env0} (ht : TabOK E) (hmix : E.P.follows .mixedOrders = true) {fn : Func} {R : AV → Heap → Prop} {h0 : Heap} {c : Cfg} {y : AV} {H : Heap} {m : Nat} (n : Nat) (l : List St)
    (hfin : fin (mk E) fn m n c (orcs l) = some (props l, y, H)) (hR : R y H) : Good E fn h0 c (Shut m R) :=
  good_fin ht hmix n (orcs l) hfin (allP_props l) hR

/-- The same, the result and the heap as they stand. -/
theorem toRetK {E : Env0} (ht : TabOK E) (hmix : E.P.follows .mixedOrders = true) {fn : Func} {R : AV → Heap → Prop} {h0 : Heap} {c : Cfg} {y : AV} {H : Heap} (n : Nat) (l : List St)
    (hfin : finK (mk E) fn n c (orcs l) = some (props l, y, H)) (hR : R y H) : Good E fn h0 c R :=
  good_finK ht hmix n (orcs l) hfin (allP_props l) hR
theorem walkK {E : Env0} (ht : TabOK E) (hmix : E.P.follows .mixedOrders = true) {f : FuncId} {fn : Func} {c : Code} {args : List AV} {h : Heap} {R : AV → Heap → Prop} {y : AV} {H : Heap} (hf : E.P.funcs[f]? = some fn) (hb : fn.body = some c) (hname : (fn.name == "runtime.NumGoroutine") = false)
    (hn : Nat.ble args.length fn.ntmps = true) (n : Nat) (l : List St) (hfin : finK (mk E) fn n ⟨fn.ntmps, [.code c], argTS 0 args, h⟩ (orcs l) = some (props l, y, H)) (hr : R y H) : ACalls E f args h R :=
  acalls_finK ht hmix hf hb hname hn n (orcs l) hfin (allP_props l) hr
theorem fromCallK {E : Env0} (ht : TabOK E) (hmix : E.P.follows .mixedOrders = true) {f : FuncId} {fn : Func} {c : Code} {args : List AV} {h : Heap} {R : AV → Heap → Prop} (hf : E.P.funcs[f]? = some fn) (hb : fn.body = some c)
    (hname : (fn.name == "runtime.NumGoroutine") = false) (hn : Nat.ble args.length fn.ntmps = true) (n : Nat) (l : List St) (live : List Nat) (m : Nat) {c' : Cfg} (hm : Nat.ble h.length m = true)
    (hu : upto (mk E) live m n ⟨fn.ntmps, [.code c], argTS 0 args, h⟩ (orcs l) = (props l, c')) (hg : Good E fn h c' R) : ACalls E f args h R :=
  acalls_of_good hf hb hname (Nat.le_of_ble_eq_true hn) (toLoop ht hmix n l live m hm hu hg)

/-- From a call to its first loop. -/
theorem fromCall {E : Env0} (ht : TabOK E) (hmix : E.P.follows .mixedOrders = true) {f : FuncId} {fn : Func} {c : Code} {args : List AV} {h : Heap} {R : AV → Heap → Prop} (hf : E.P.funcs[f]? = some fn) (hb : fn.body = some c)
    (hname : (fn.name == "runtime.NumGoroutine") = false) (hn : Nat.ble args.length fn.ntmps = true) (n : Nat) (l : List St) (live : List Nat) (m : Nat) {c' : Cfg} (hm : Nat.ble h.length m = true)
    (hu : upto (mk E) live m n ⟨fn.ntmps, [.code c], argTS 0 args, h⟩ (orcs l) = (props l, c')) (hg : Good E fn h c' (Shut h.length R)) : ACalls E f args h R :=
  acalls_shut (acalls_of_good hf hb hname (Nat.le_of_ble_eq_true hn) (toLoop ht hmix n l live m hm hu hg))

end Go.AM

namespace Go.AM
open Go.RowKit

theorem shp_int {x : Value} {k : IntKind} (h : shp x = .int k) : ∃ a, x = .int k a := by
  cases x <;> simp [shp] at h
  rename_i k' n; subst h; exact ⟨n, rfl⟩
theorem shp_str {x : Value} (h : shp x = .str) : ∃ a, x = .string a := by
  cases x <;> simp [shp] at h
  exact ⟨_, rfl⟩
theorem shp_bool {x : Value} (h : shp x = .bool) : ∃ a, x = .bool a := by
  cases x <;> simp [shp] at h
  exact ⟨_, rfl⟩

def shpOk (t : TI) : Shp → Bool
  | .int _ => match t.kind with | .int _ => Nat.beq t.size 1 && !t.isAgg | _ => false
  | .str => match t.kind with | .str => Nat.beq t.size 1 && !t.isAgg | _ => false
  | .bool => match t.kind with | .bool => Nat.beq t.size 1 && !t.isAgg | _ => false
  | .other => false

/-- Fields that lie one behind the other, of one cell each. -/
def flat (T : TypeId → TI) : Nat → List Field → List Shp → Bool
  | _, [], [] => true
  | i, f :: fs, s :: ss => (f.name != "_") && Nat.beq f.offset i && shpOk (T f.type) s && flat T (i + 1) fs ss
  | _, _, _ => false

theorem eqCell {E : Env0} (ht : TabOK E) {t : TypeId} {x y : Value} {r : Bool} (d : Nat) (hs : shpOk (E.T t) (shp x) = true) (he : eqVal x y = some r) (w : World) : (Op.equalIn (d + 1) t x y).run E.P w = .ok r w := by
  cases x <;> simp [shp, shpOk] at hs
  case bool a =>
    split at hs
    · rename_i hk
      obtain ⟨i, dd, z, tok⟩ := ht.at_ (t := t) (by intro h; rw [h] at hk; cases hk)
      cases y <;> simp [eqVal] at he
      subst he
      have := tok.bool_ hk
      subst this
      exact run_equalIn_bool' w d t _ _ tok.und
    · cases hs
  case int k a =>
    split at hs
    · rename_i k' hk
      obtain ⟨i, dd, z, tok⟩ := ht.at_ (t := t) (by intro h; rw [h] at hk; cases hk)
      cases y <;> simp [eqVal] at he
      obtain ⟨rfl, rfl⟩ := he
      have := tok.int_ hk
      subst this
      exact run_equalIn_int w d t _ _ _ _ tok.und
    · cases hs
  case string a =>
    split at hs
    · rename_i hk
      obtain ⟨i, dd, z, tok⟩ := ht.at_ (t := t) (by intro h; rw [h] at hk; cases hk)
      cases y <;> simp [eqVal] at he
      subst he
      have := tok.str_ hk
      subst this
      rw [run_equalIn_string w d t _ _ tok.und, beq_toListBytes]
    · cases hs

theorem shpOk_size {t : TI} {s : Shp} (h : shpOk t s = true) : t.size = 1 ∧ t.isAgg = false ∧ t ≠ ⟨.scalar, 0, 0, []⟩ := by
  unfold shpOk at h
  split at h <;> try cases h
  all_goals
    split at h
    · rename_i hk
      simp only [Bool.and_eq_true, Bool.not_eq_true'] at h
      exact ⟨Nat.eq_of_beq_eq_true h.1, h.2, by intro h'; rw [h'] at hk; cases hk⟩
    · cases h

theorem eqFields_ok {E : Env0} (ht : TabOK E) (d : Nat) (w : World) : ∀ (fs : List Field) (px py xs ys : List Value) (r : Bool), px.length = py.length → flat E.T px.length fs (xs.map shp) = true → eqVals xs ys = some r →
    (Op.eqFields (d + 1) (px ++ xs).toArray (py ++ ys).toArray fs).run E.P w = .ok r w
  | [], px, py, xs, ys, r, hp, hf, he => by
    cases xs with
    | cons x xs => simp [flat] at hf
    | nil =>
      cases ys <;> simp [eqVals] at he
      subst he
      rfl
  | f :: fs, px, py, [], ys, r, hp, hf, he => by simp [flat] at hf
  | f :: fs, px, py, x :: xs, [], r, hp, hf, he => by simp [eqVals] at he
  | f :: fs, px, py, x :: xs, y :: ys, r, hp, hf, he => by
    simp only [List.map_cons, flat, Bool.and_eq_true, bne_iff_ne] at hf
    obtain ⟨⟨⟨hn, ho⟩, hs⟩, hrest⟩ := hf
    have ho := Nat.eq_of_beq_eq_true ho
    simp only [eqVals] at he
    split at he
    · rename_i a b h1 h2
      simp only [Option.some.injEq] at he
      subst he
      obtain ⟨hsz, hagg, hne⟩ := shpOk_size hs
      obtain ⟨i, dd, z, tok⟩ := ht.at_ hne
      have p1 := run_part tok w (px ++ x :: xs) f.offset (by rw [hsz, ho]; simp)
      have p2 := run_part tok w (py ++ y :: ys) f.offset (by rw [hsz, ho, hp]; simp)
      rw [hsz, ho] at p1
      rw [hsz, ho, hp] at p2
      simp only [List.drop_left, List.take_succ_cons, List.take_zero, mkVal, hagg] at p1 p2
      have p3 := eqCell ht d hs h1 w
      have ih := eqFields_ok ht d w fs (px ++ [x]) (py ++ [y]) xs ys b (by simp [hp]) (by simpa using hrest) h2
      simp only [List.append_assoc, List.singleton_append] at ih
      simp only [Op.eqFields, ne_eq, hn, not_false_eq_true, if_true, Sem.run_bind, ho]
      rw [p1, Result.andThen_ok, hp, p2, Result.andThen_ok]
      simp only [List.headD_cons]
      rw [p3, Result.andThen_ok]
      cases a
      · rfl
      · simpa using ih
    · cases he

theorem seq_of {E : Env0} (ht : TabOK E) {t : TypeId} {fs : Array Field} {ss : List Shp} (hu : E.P.underlying t = some (.struct fs)) (hp : E.P.stoodInHeld t = false) (hg : E.P.eqGuardType E.P.depth t = false) (hf : flat E.T 0 fs.toList ss = true) :
    StructEq E.P t ss := by
  refine ⟨hg, fun w xs ys r hs he => ?_⟩
  have hfo : E.P.fieldsOf t = fs := by simp [Program.fieldsOf, hu]
  have h1 := run_equalIn_struct (P := E.P) w 9999 t xs.toArray ys.toArray (by rw [hfo]; exact hu) hp
  rw [hfo] at h1
  have h2 := eqFields_ok ht 9998 w fs.toList [] [] xs ys r rfl (by rw [hs]; exact hf) he
  simp only [List.nil_append] at h2
  unfold Op.equal Op.maxDepth
  rw [h1]
  exact h2

end Go.AM
