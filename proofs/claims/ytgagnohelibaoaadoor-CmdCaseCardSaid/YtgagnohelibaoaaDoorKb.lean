import Derived.Test.YtgagnohelibaoaaDoorKa
import Derived.Test.YtgagnohelibaoaaDoorSv
/-! How verbs are compared. -/
set_option linter.unusedSimpArgs false
set_option linter.unusedVariables false
set_option maxHeartbeats 4000000
set_option maxRecDepth 100000
namespace Go.Proofs.YtgagnohelibaoaaDoor
open Go.RowKit Go.Lib Go.Sort Go.Shelf

def cmpS (a b : ByteArray) : Int := if Op.bytesLess a.toList b.toList = true then -1 else if (!(a.toList == b.toList)) = true then 1 else 0
theorem nan_calls (a : ByteArray) (w : World) : Calls Tryd.prog 39 #[.string a] w fun e w' => e = .returned (.bool false) ∧ w' = w := by
  go_enter Tryd.func39, Tryd.ntmps39
  go_wp2
  go_ret
  exact ⟨by simp, rfl⟩
theorem cmp_calls (a b : ByteArray) (w : World) : Calls Tryd.prog 29 #[.string a, .string b] w fun e w' => e = .returned (.int .i64 (cmpS a b)) ∧ w' = w := by
  unfold cmpS
  cases h1 : Op.bytesLess a.toList b.toList with
  | true =>
    go_enter Tryd.func29, Tryd.ntmps29
    go_wp2_with (go_at_call 39; refine (nan_calls _ _).mono ?_; rintro e w' ⟨rfl, rfl⟩)
    go_ret
    exact ⟨rfl, rfl⟩
  | false =>
    have hg : binOp .gtr 9 (.string a) (.string b) = pure (.bool (!(a.toList == b.toList))) := by simp [binOp, Op.stringOp, h1]
    cases h2 : (!(a.toList == b.toList)) with
    | true =>
      go_enter Tryd.func29, Tryd.ntmps29
      go_wp2_with (go_at_call 39; refine (nan_calls _ _).mono ?_; rintro e w' ⟨rfl, rfl⟩)
      go_ret
      exact ⟨rfl, rfl⟩
    | false =>
      go_enter Tryd.func29, Tryd.ntmps29
      go_wp2_with (go_at_call 39; refine (nan_calls _ _).mono ?_; rintro e w' ⟨rfl, rfl⟩)
      go_ret
      exact ⟨rfl, rfl⟩
def verbC (v : GVerb) : List Value := [.string ⟨v.name.toArray⟩, .int .i64 v.kind, .int .i64 v.arg, .bool v.path]
theorem less_calls (x y : GVerb) (W : World) : Calls Tryd.prog 28 #[.agg (verbC x).toArray, .agg (verbC y).toArray] W fun e w' => e = .returned (.int .i64 (cmpS ⟨x.name.toArray⟩ ⟨y.name.toArray⟩)) ∧ ∃ q os', w' = grow (W.drewN q) os' := by
  unfold verbC
  go_enter Tryd.func28, Tryd.ntmps28
  go_wp2_with (go_at_call 29; refine (cmp_calls _ _ _).mono ?_; rintro e w' ⟨rfl, rfl⟩)
  go_ret
  exact ⟨rfl, 0, _, by rw [alloc_eq_grow, alloc_eq_grow, grow_grow]; rfl⟩
def nth (i : Fin 36) : GVerb := verbs.getD i default
def cfV (i j : Fin 36) : Int := cmpS ⟨(nth i).name.toArray⟩ ⟨(nth j).name.toArray⟩
def lt36 (i j : Fin 36) : Bool := decide (cfV i j < 0)
theorem cf_eq : ∀ i j : Fin 36, cfV i j = if i < j then -1 else if j < i then 1 else 0 := by decide +kernel
theorem lt_eq (i j : Fin 36) : ltOf cfV i j = decide (i < j) := by
  unfold ltOf
  rw [cf_eq]
  by_cases h : i < j
  · simp [h]
  · by_cases h2 : j < i <;> simp [h, h2]
theorem swo : SWO (ltOf cfV) where
  irrefl x := by rw [lt_eq]; simp
  trans x y z h1 h2 := by rw [lt_eq] at *; simp at *; omega
  ntrans x y z h1 h2 := by rw [lt_eq] at *; simp at *; omega
theorem one36 (x y : Fin 36) (h1 : ltOf cfV x y = false) (h2 : ltOf cfV y x = false) : x = y := by
  rw [lt_eq] at *
  simp at *
  omega
end Go.Proofs.YtgagnohelibaoaaDoor
