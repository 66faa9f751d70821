import Derived.Test.YtgagnohelibaoaaDoorRows
import Derived.Test.YtgagnohelibaoaaDoorM
import Derived.ChangeSame
import Derived.ChangeVars
import Derived.JoinedOf
import Derived.RowKitTokens
import Derived.LaidLaws
import Derived.LaidHandle
import Derived.Stop.Joined
/-! What the rows' condition on package-level variables gives a walk; a world that meets it. -/
set_option linter.unusedVariables false
namespace Go.Proofs.YtgagnohelibaoaaDoor
open Go.ChangeShapes Go.WideShapes Go.RowKit

theorem g_et : Tryd.prog.globalNamed "errors.errorType" = some 0 := by kernel_rfl
theorem g_rt : (Tryd.prog.cutTypes.find? (·.1 == "internal/reflectlite.rtype")).map (·.2) = some 75 := by kernel_rfl
theorem g_one : ((List.range 142).filter fun t => Tryd.prog.rowNamed t [101, 114, 114, 111, 114]) = [46] := by kernel_rfl
theorem g_size : Tryd.prog.types.size = 142 := by kernel_rfl
def laidL : List (String × DataW Unit) := [("errors.errorType", Rows.laid_errors_errorType)]
theorem handle_of_laid {W : World} (h : laidMetH Tryd.prog laidL W) : W.cell? ⟨0, 0, none⟩ = some (.iface 75 (.agg #[.pointer (some ⟨2, 46, none⟩)])) := by
  have h' : laidMet Tryd.prog [] W ∧ handlesMet Tryd.prog laidL W := h
  obtain ⟨name, u, ty, e1, e2, e3, e4, e5⟩ := h'.2 _ (List.mem_singleton.2 rfl)
  have en : name = [101, 114, 114, 111, 114] := (Option.some.inj e1).symm
  subst en
  obtain rfl := Option.some.inj (g_rt.symm.trans e2)
  have hm : ty ∈ (List.range 142).filter fun t => Tryd.prog.rowNamed t [101, 114, 114, 111, 114] := List.mem_filter.2 ⟨List.mem_range.2 (by rw [← g_size]; exact e3), e4⟩
  rw [g_one] at hm
  obtain rfl := List.mem_singleton.1 hm
  have hh : typeHandle Tryd.prog 46 = .pointer (some ⟨2, 46, none⟩) := by kernel_rfl
  rw [hh] at e5
  simpa using World.var?_cell g_et e5 0
theorem good_of_laid {W : World} (h : laidMetH Tryd.prog laidL W) : Good W := fun x hx => by
  have hc := handle_of_laid h
  obtain rfl := List.mem_singleton.1 hx
  refine ⟨?_, hc⟩
  rcases Nat.lt_or_ge 0 W.heap.size with h | h
  · exact h
  · simp [World.cell?, Array.getElem?_eq_none h] at hc
/-- A world that meets the condition. -/
noncomputable def laidWorld (os : Os) : World :=
  let w0 := World.holding Tryd.prog os ⟨#[], #[], []⟩
  { w0 with heap := w0.heap.modify 0 fun
      | .cells _ t frozen => .cells #[.iface 75 (.agg #[.pointer (some ⟨2, 46, none⟩)])] t frozen
      | o => o }
theorem laidWorld_met (os : Os) (args : Array Value) : laidMetH Tryd.prog laidL ((laidWorld os).forCall (fun _ _ => 0) ⟨#[], args, []⟩).memory :=
  laidMetH_of_parts (laidMet_nil _ _) (by kernel_rfl)
end Go.Proofs.YtgagnohelibaoaaDoor
