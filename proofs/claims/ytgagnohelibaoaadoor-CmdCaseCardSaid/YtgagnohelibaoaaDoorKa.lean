import Derived.Test.YtgagnohelibaoaaDoorJa
import Derived.Maps.RangeRun
/-! The table of verbs, in memory; a range over it. -/
set_option linter.unusedSimpArgs false
set_option linter.unusedVariables false
set_option maxHeartbeats 4000000
set_option maxRecDepth 100000
namespace Go.Proofs.YtgagnohelibaoaaDoor
open Go.RowKit

def verbV (v : GVerb) : Value := .agg #[.string ⟨v.name.toArray⟩, .int .i64 v.kind, .int .i64 v.arg, .bool v.path]
def verbK (v : GVerb) : Value × Value := (.string ⟨v.name.toArray⟩, verbV v)
def decE : PV × PV → GVerb
  | (_, .agg [.str n, .int _ k, .int _ a, .bool p]) => ⟨n, k, a, p⟩
  | _ => default
theorem decE_verb (v : GVerb) : decE (verbE v) = v := rfl
theorem perm_verbs {es : List (PV × PV)} (h : es.Perm tableP) : ∃ vs : List GVerb, vs.Perm verbs ∧ es = vs.map verbE := by
  refine ⟨es.map decE, ?_, ?_⟩
  · have := h.map decE
    rw [tableP, List.map_map] at this
    have e : verbs.map (decE ∘ verbE) = verbs := by
      conv => rhs; rw [← List.map_id verbs]
      exact List.map_congr_left fun v _ => decE_verb v
    rw [e] at this
    exact this
  · rw [List.map_map]
    conv => lhs; rw [← List.map_id es]
    refine List.map_congr_left fun e he => ?_
    obtain ⟨v, _, rfl⟩ := List.mem_map.1 (h.mem_iff.1 he)
    rfl
theorem rel_verb {S : Addr → Prop} {μ : Nat → Value} {D : Nat → Prop} {w : World} {v : GVerb} {x : Value} (h : Rel S μ D w (.agg v.cs) x) : x = verbV v := by
  have one : ∀ {p : PV} {a y : Value}, plainV p = some a → Rel S μ D w p y → y = a := fun hp hr => by
    cases hr with
    | c h => exact plainV_eq hp h
    | _ => cases hp
  have fin : ∀ arr : Array Value, arr.size = 4 → (∀ (i : Nat) p, v.cs[i]? = some p → Rel S μ D w p (arr.getD i undef)) → (Value.agg arr) = verbV v := fun arr hs h => by
    have h0 := one rfl (h 0 _ rfl)
    have h1 := one rfl (h 1 _ rfl)
    have h2 := one rfl (h 2 _ rfl)
    have h3 := one rfl (h 3 _ rfl)
    obtain ⟨l⟩ := arr
    match l, hs with
    | [a, b, c, d], _ =>
      simp at h0 h1 h2 h3
      rw [h0, h1, h2, h3]
      rfl
  cases h with
  | c h =>
    cases h with
    | agg _ arr hs h => exact fin arr hs fun i p hi => .c (h i p hi)
  | agg _ arr hs h => exact fin arr hs h
theorem table_raw (w : World) (hG : Good w) : Calls Tryd.prog 26 #[] w fun e w' => Below w.heap.size w w' ∧ ∃ g arr clk, e = .returned (.map (some g)) ∧ w.heap.size ≤ g ∧ w'.heap[g]? = some (.map arr clk) ∧ Born arr clk ∧
    ∃ vs : List GVerb, vs.Perm verbs ∧ arr.toList.map (fun x => (x.key, x.val)) = vs.map verbK := by
  refine (table_in.2 w (fun _ => False) [] (fun _ => False) (fun _ => undef) (fun m => m < 2) (fun _ => none) w [] 8 ⟨fun p h => (by cases h), fun nm o h => (by cases h), fun nm nm' o o' h => (by cases h), fun _ _ => rfl, Below.refl _ _, fun _ _ => Iff.rfl, fun a h => h.elim, fun m h => h, hG⟩ ⟨2, fun m h => h⟩ (fun j _ h => by omega) (fun x h => (by cases h)) rfl (fun i p h => (by simp at h))).mono ?_
  rintro e w' ⟨v, S', μ', rfl, hm, hr⟩
  refine ⟨hm.below, ?_⟩
  obtain ⟨es, ⟨hp, _⟩, g, arr, clk, h1, h2, h3, h4, h5, h6, _, h8⟩ := hm.heap 8 (.map tableP) rfl
  obtain ⟨vs, hv, rfl⟩ := perm_verbs hp
  refine ⟨g, arr, clk, ?_, h2, h4, h8, vs, hv, ?_⟩
  · cases hr with
    | mp _ g' _ hg => rw [h1] at hg; cases hg; rfl
    | c h => cases h
  · apply List.ext_getElem?
    intro i
    rw [List.getElem?_map, List.getElem?_map, Array.getElem?_toList]
    cases hi : vs[i]? with
    | none =>
      have := List.getElem?_eq_none_iff.1 hi
      rw [Array.getElem?_eq_none (by rw [h5, List.length_map]; omega)]
      rfl
    | some y =>
      obtain ⟨x, q1, q2, q3⟩ := h6 i (verbE y) (by rw [List.getElem?_map, hi]; rfl)
      rw [q1]
      have e1 : x.key = .string ⟨y.name.toArray⟩ := rel_str q2
      have e2 : x.val = verbV y := rel_verb q3
      simp only [Option.map_some, e1, e2, verbK]
end Go.Proofs.YtgagnohelibaoaaDoor
