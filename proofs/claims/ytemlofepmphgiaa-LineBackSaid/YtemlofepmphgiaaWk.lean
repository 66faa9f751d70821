import Derived.Test.YtemlofepmphgiaaJt
import Derived.Test.YtemlofepmphgiaaDec
/-! The laws, called with any arguments. -/
set_option linter.unusedVariables false
namespace Go.Proofs.Ytemlofepmphgiaa
open Go.RowKit
theorem walkLineBack (v0 v1 v2 : Value) (W : World) (q0 : PV) (o0 : OkV Try.prog 9 35 q0) (r0 : CRel (S0 W) W q0 v0) (q1 : PV) (o1 : OkV Try.prog 9 3 q1) (r1 : CRel (S0 W) W q1 v1) (q2 : PV) (o2 : OkV Try.prog 9 4 q2) (r2 : CRel (S0 W) W q2 v2) : Calls Try.prog 5 #[v0, v1, v2] W fun e W' => e = .returned (.bool true) ∧ Below W.heap.size W W' := by
  obtain ⟨a0, rfl, k0⟩ := arg35 o0
  obtain ⟨a1, rfl, k1⟩ := arg3 o1
  obtain ⟨a2, rfl, k2⟩ := arg4 o2
  refine law_run (args := [.sl 1 (a0.map textE), .int .i64 a1, .bool a2]) (vs := [v0, v1, v2]) (back_to a0 a1 a2 k0 k1 k2) rfl ?_
  intro i p hp
  rcases i with _ | _ | _ | i
  · simp at hp; subst hp; exact r0
  · simp at hp; subst hp; exact r1
  · simp at hp; subst hp; exact r2
  · simp at hp
end Go.Proofs.Ytemlofepmphgiaa
