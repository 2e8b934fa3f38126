/-
  From an abstract contract to a call in any memory.
-/
import Derived.Test.YtkibinkahpgboaaDoorUBase
import Derived.Test.YtkibinkahpgboaaDoorUCa
import Derived.Carry
import Derived.ChangeSame
import Derived.Lib.LaidU8
import Derived.FnData
namespace Go.AM
open Go.RowKit
set_option linter.unusedSimpArgs false
set_option linter.unusedVariables false
/-- All that lies in memory. -/
abbrev old (W : World) : Addr → Prop := fun a => a.block < W.heap.size
theorem cell_lt {W : World} {a : Addr} {v : Value} (h : W.cell? a = some v) : a.block < W.heap.size := by
  unfold World.cell? at h
  cases hb : W.heap[a.block]? with
  | none => rw [hb] at h; cases h
  | some o => exact (Array.getElem?_eq_some_iff.1 hb).1
/-- Cells that hold one value each. -/
theorem relD_strs {W : World} {g : Nat} (l : List Str) (h : ∀ (j : Nat) (s : Str), l[j]? = some s → W.cell? ⟨g, j, none⟩ = some (.string s)) : RelD W (old W) (.dp (l.map sv)) (.pointer (some ⟨g, 0, none⟩)) := by
  refine .dp _ g 0 (fun j => .string (l.getD j ⟨#[]⟩)) (fun j x hx => ?_) (fun j x hx => ?_)
  · simp only [List.getElem?_map, Option.map_eq_some_iff] at hx
    obtain ⟨s, hs, rfl⟩ := hx
    have hc := h j s hs
    rw [Nat.zero_add]
    refine ⟨cell_lt hc, ?_, rfl⟩
    rw [hc, List.getD_eq_getElem?_getD, hs]; rfl
  · simp only [List.getElem?_map, Option.map_eq_some_iff] at hx
    obtain ⟨s, hs, rfl⟩ := hx
    have : l.getD j ⟨#[]⟩ = s := by rw [List.getD_eq_getElem?_getD, hs]; rfl
    simp only [this]
    exact .v _ rfl
theorem bytes_eq {s : ByteArray} {l : List UInt8} (h : s.data.toList = l) : s = ofStr l := by
  cases s with
  | mk d => simp only [ofStr]; congr; rw [← h]
/-- A listed array of texts: its cells. -/
theorem laid_strs {P : Program} {W : World} {n : String} {g : Nat} {t e : TypeId} {k : Nat} {l : List (List UInt8)} (hr : Lib.VarReads P W n (.agg (l.map fun b => .lit (.string b)))) (hg : P.globalNamed n = some g) (hty : (P.globals[g]?).map (·.type) = some t)
    (ht : P.underlying t = some (.array k e)) (he : P.underlying e = some .string) (hc : P.cellsOf e = 1) (hk : l.length = k) : ∀ (j : Nat) (s : Str), (l.map ofStr)[j]? = some s → W.cell? ⟨g, j, none⟩ = some (.string s) := by
  intro j s hs
  obtain ⟨g', t', cs, fuel, p, h1, h2, h3, h4⟩ := hr
  obtain rfl : g' = g := Option.some.inj (h1.symm.trans hg)
  obtain rfl : t' = t := Option.some.inj (h2.symm.trans hty)
  simp only [List.getElem?_map, Option.map_eq_some_iff] at hs
  obtain ⟨b, hb, rfl⟩ := hs
  have hj := at_lt hb
  obtain ⟨f', d, q, hd, hq⟩ := Lib.array_elem ht h4 j (by omega)
  simp only [List.getElem?_map, hb, Option.map_some, Option.some.injEq] at hd
  subst hd
  obtain ⟨s, e1, e2, _⟩ := DataW.trod_string he hq
  rw [World.var?_cell h1 h3]
  rw [hc, Nat.mul_one] at e1
  have e3 : cs.toList[j]? = some (.string s) := by
    have := congrArg (·[0]?) e1
    simpa [List.getElem?_take, List.getElem?_drop] using this
  have e4 : s = ofStr b := bytes_eq (by simp only [Prod.mk.injEq, DataW.lit.injEq, Lit.string.injEq] at e2; exact e2.1.symm)
  rw [← e4]
  simpa using e3
theorem relV_ints {W : World} {a : Addr} {len cap : Nat} {zs : List Int} (h1 : len ≤ cap) (h2 : cap ≤ maxLen) (h3 : zs.length = cap) (hc : ∀ i, i < zs.length → W.cell? (a.add i) = some (.int .i64 (zs.getD i 0))) :
    RelV E0.T [] [] W (old W) (isl (zs.take len)) (.slice (some a) len cap) := by
  have hlen : ((zs.take len).map fun n => [iv n]).length = len := by simp; omega
  have key := RelD.sl (w := W) (S := old W) ((zs.take len).map fun n => [iv n]) (some a) cap a.block a.off 1 (fun k => .int .i64 (zs.getD k 0)) ?_ (by rw [hlen]; exact h1) h2 (fun i c hi => ?_) (fun i j c x hi hj => ?_) (fun i j c x hi hj => ?_)
  · rw [hlen] at key
    exact .d _ _ key
  · intro hne
    have hz : 0 < zs.length := by
      rcases Nat.eq_zero_or_pos zs.length with h | h
      · exact absurd (by simp [List.eq_nil_of_length_eq_zero h]) hne
      · exact h
    have h0 := hc 0 hz
    have : a.spot = none := by
      simp only [Addr.add, if_pos] at h0
      unfold World.cell? at h0
      split at h0
      · cases hs : a.spot with
        | none => rfl
        | some x => rw [hs] at h0; simp at h0
      · cases h0
    cases a
    simp only at this
    subst this
    rfl
  · simp only [List.getElem?_map, Option.map_eq_some_iff] at hi
    obtain ⟨n, _, rfl⟩ := hi
    rfl
  · simp only [List.getElem?_map, Option.map_eq_some_iff] at hi
    obtain ⟨n, hn, rfl⟩ := hi
    have hi2 := at_lt hn
    simp only [List.length_take] at hi2
    have hj0 : j = 0 := by
      cases j with
      | zero => rfl
      | succ j => simp at hj
    subst hj0
    have h0 := hc i (by omega)
    have e : a.add i = ⟨a.block, a.off + (i * 1 + 0), none⟩ := by
      unfold Addr.add
      split
      · rename_i hi0
        subst hi0
        have : a.spot = none := by
          simp only [Addr.add, if_pos] at h0
          unfold World.cell? at h0
          split at h0
          · cases hs : a.spot with
            | none => rfl
            | some x => rw [hs] at h0; simp at h0
          · cases h0
        cases a
        simp only at this
        subst this
        rfl
      · simp
    rw [e] at h0
    refine ⟨cell_lt h0, ?_, rfl⟩
    rw [h0]; simp
  · simp only [List.getElem?_map, Option.map_eq_some_iff] at hi
    obtain ⟨n, hn, rfl⟩ := hi
    have hj0 : j = 0 := by
      cases j with
      | zero => rfl
      | succ j => simp at hj
    subst hj0
    simp only [List.getElem?_cons_zero, Option.some.injEq] at hj
    subst hj
    have : zs.getD (i * 1 + 0) 0 = n := by
      rw [List.getElem?_take] at hn
      split at hn
      · simp only [Nat.mul_one, Nat.add_zero, List.getD_eq_getElem?_getD, hn]; rfl
      · cases hn
    simp only [this]
    exact .v _ rfl
theorem relV_nil {W : World} : RelV E0.T [] [] W (old W) (isl []) (.slice none 0 0) :=
  .d _ _ (RelD.sl [] none 0 0 0 1 (fun _ => .int .i64 0) (fun h => absurd rfl h) (Nat.le_refl _) (by decide) (fun i c h => by simp at h) (fun i j c x h => by simp at h) (fun i j c x h => by simp at h))
theorem oneCell_ok {P : Program} {w : World} {r : Reach} {b : Nat} {u : TypeId} {y : Value} (h : Cell.okWide P w r b u y) : y.oneCell' = true := by
  have h2 : ∀ y, Cell.ok P w r b u y → y.oneCell' = true := by
    intro y h
    unfold Cell.ok at h
    split at h <;> first | rfl | exact h.elim
  unfold Cell.okWide at h
  split at h <;> first | rfl | exact h2 _ h
/-- A value of a struct, of which nothing is known. -/
theorem relV_un {P : Program} {W : World} {r : Reach} {b : Nat} {t : TypeId} {fs : Array Field} {v : Value} {n : Nat} (ht : P.underlying t = some (.struct fs)) (hn : P.cellsOf t = n) (hval : Value.okWide P W r b t v) : RelV E0.T [] [] W (old W) (.agg (List.replicate n .un)) v := by
  unfold Value.okWide at hval
  rw [ht] at hval
  obtain ⟨cs, rfl, hs, ts, _, _, hcell⟩ := hval
  have h := RelV.agg (T := E0.T) (h := []) (β := []) (w := W) (S := old W) (List.replicate n .un) cs.toList (by simp [hs, hn]) (fun y hy => ?_) (fun i x y hx hy => ?_)
  · simpa using h
  · obtain ⟨i, hi⟩ := List.getElem?_of_mem hy
    obtain ⟨u, _, hu⟩ := hcell i y (by simpa using hi)
    exact oneCell_ok hu
  · have : x = .un := (List.eq_of_mem_replicate (List.mem_of_getElem? hx))
    subst this
    exact .d _ _ (.un _)
/-- The call, in any memory. -/
theorem calls_of {f : FuncId} {args : List AV} {b : Bool} (h : ACallsTo E0 f args [] (bv b) []) (hgo : GoFn E0.P f) {W : World} {vs : List Value} (hglob : ∀ g cs, globs g = some cs → RelD W (old W) (.dp cs) (.pointer (some ⟨g, 0, none⟩))) (hargs : PW (RelV E0.T [] [] W (old W)) args vs) :
    Calls E0.P f vs.toArray W fun e W' => e = .returned (.bool b) ∧ Below W.heap.size W W' := by
  have hrel : Rel E0 [] [] (old W) W := ⟨rfl, fun b cs hb => by simp at hb, fun b e xs sh hb => by simp at hb, fun b b' k k' g hb => by simp at hb, fun b k g hb => by simp at hb, fun a ha => ha, fun b k g a hb => by simp at hb, hglob⟩
  obtain ⟨fn, hf1, hf2, hf3⟩ := hgo
  have hp : ∀ e W', Post E0 [] [] (old W) W (fun r' h'' => r' = bv b ∧ h'' = []) e W' → e = .returned (.bool b) ∧ Below W.heap.size W W' := by
    rintro e W' ⟨r, h', β', S', y, rfl, ⟨rfl, rfl⟩, _, ex, rv⟩
    refine ⟨?_, ex.os, ex.tape, ex.output, ex.size, fun k hk => ex.keep k hk fun b' k' hb => by simp at hb⟩
    rw [rv.v_inv]
  rcases h [] (old W) W vs hrel hargs with ⟨_, hc⟩ | ⟨y, w', hrun, _⟩
  · exact hc.mono hp
  · exfalso
    simp only [callFunc, Sem.run_bind, Sem.run_pure, Result.andThen_ok, run_program, hf1, hf2, hf3, Bool.false_eq_true, if_false] at hrun
    cases hrun
end Go.AM
