import Derived.Test.YtemlofepmphgiaaJr
import Derived.Test.YtemlofepmphgiaaDec
/-! The laws, called with any arguments. -/
set_option linter.unusedVariables false
namespace Go.Proofs.Ytemlofepmphgiaa
open Go.RowKit
theorem walkLineParts (v0 v1 v2 v3 v4 : Value) (W : World) (q0 : PV) (o0 : OkV Try.prog 9 24 q0) (r0 : CRel (S0 W) W q0 v0) (q1 : PV) (o1 : OkV Try.prog 9 22 q1) (r1 : CRel (S0 W) W q1 v1) (q2 : PV) (o2 : OkV Try.prog 9 3 q2) (r2 : CRel (S0 W) W q2 v2) (q3 : PV) (o3 : OkV Try.prog 9 4 q3) (r3 : CRel (S0 W) W q3 v3) (q4 : PV) (o4 : OkV Try.prog 9 3 q4) (r4 : CRel (S0 W) W q4 v4) : Calls Try.prog 4 #[v0, v1, v2, v3, v4] W fun e W' => e = .returned (.bool true) ∧ Below W.heap.size W W' := by
  obtain ⟨a0, rfl, k0⟩ := arg24 o0
  obtain ⟨a1, rfl, k1⟩ := arg22 o1
  obtain ⟨a2, rfl, k2⟩ := arg3 o2
  obtain ⟨a3, rfl, k3⟩ := arg4 o3
  obtain ⟨a4, rfl, k4⟩ := arg3 o4
  refine law_run (args := [.agg a0.cs, .sl 1 (a1.map byteE), .int .i64 a2, .bool a3, .int .i64 a4]) (vs := [v0, v1, v2, v3, v4]) (parts_to a0 a1 a2 a3 a4 k0 k1 k2 k3 k4) rfl ?_
  intro i p hp
  rcases i with _ | _ | _ | _ | _ | i
  · simp at hp; subst hp; exact r0
  · simp at hp; subst hp; exact r1
  · simp at hp; subst hp; exact r2
  · simp at hp; subst hp; exact r3
  · simp at hp; subst hp; exact r4
  · simp at hp
end Go.Proofs.Ytemlofepmphgiaa
