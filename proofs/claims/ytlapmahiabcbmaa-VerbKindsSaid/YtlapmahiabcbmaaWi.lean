import Derived.Test.YtlapmahiabcbmaaJe
import Derived.Test.YtlapmahiabcbmaaDec
/-! The laws, called with any arguments. -/
set_option linter.unusedVariables false
namespace Go.Proofs.Ytlapmahiabcbmaa
open Go.RowKit
theorem walkVerbKinds (v0 : Value) (W : World) (q0 : PV) (o0 : OkV Try.prog 9 3 q0) (r0 : CRel (S0 W) W q0 v0) : Calls Try.prog 7 #[v0] W fun e W' => e = .returned (.bool true) ∧ Below W.heap.size W W' := by
  obtain ⟨a0, rfl, k0⟩ := arg3 o0
  refine law_run (args := [.int .i64 a0]) (vs := [v0]) (kinds_to a0 k0) rfl ?_
  intro i p hp
  rcases i with _ | i
  · simp at hp; subst hp; exact r0
  · simp at hp
end Go.Proofs.Ytlapmahiabcbmaa
