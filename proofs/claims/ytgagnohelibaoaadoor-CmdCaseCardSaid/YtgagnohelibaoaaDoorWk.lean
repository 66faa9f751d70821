import Derived.Test.YtgagnohelibaoaaDoorMj
import Derived.Test.YtgagnohelibaoaaDoorDec
/-! The laws, called with any arguments. -/
set_option linter.unusedVariables false
namespace Go.Proofs.YtgagnohelibaoaaDoor
open Go.RowKit
theorem walkCmdCase (v0 v1 v2 : Value) (W : World) (hG : Good W) (q0 : PV) (o0 : OkV Tryd.prog 9 3 q0) (r0 : CRel (S0 W) W q0 v0) (q1 : PV) (o1 : OkV Tryd.prog 9 3 q1) (r1 : CRel (S0 W) W q1 v1) (q2 : PV) (o2 : OkV Tryd.prog 9 9 q2) (r2 : CRel (S0 W) W q2 v2) : Calls Tryd.prog 8 #[v0, v1, v2] W fun e W' => e = .returned (.bool true) ∧ Below W.heap.size W W' := by
  obtain ⟨a0, rfl, k0⟩ := arg3 o0
  obtain ⟨a1, rfl, k1⟩ := arg3 o1
  obtain ⟨a2, rfl, k2⟩ := arg9 o2
  refine law_run (args := [.int .i64 a0, .int .i64 a1, .str a2]) (vs := [v0, v1, v2]) (case_to a0 a1 a2 k0 k1 k2) hG rfl ?_
  intro i p hp
  rcases i with _ | _ | _ | i
  · simp at hp; subst hp; exact r0
  · simp at hp; subst hp; exact r1
  · simp at hp; subst hp; exact r2
  · simp at hp
end Go.Proofs.YtgagnohelibaoaaDoor
