import Derived.Test.YtemlofepmphgiaaJr
import Derived.Test.YtemlofepmphgiaaDec
import Derived.ChangeMaps5
import Derived.SizedLaws
/-! The laws, called with any arguments. -/
set_option linter.unusedVariables false
namespace Go.Proofs.Ytemlofepmphgiaa
open Go.RowKit
section
variable {H : Type} {enc : TypeId × Value → H} {w : World} {sp : Nat → Bool} {held : Bool}
/-- A text that is told, no longer than the form's reach. -/
def OkStr (q : PV) : Prop := ∃ l : List UInt8, q = .str l ∧ l.length ≤ 140737488351232
theorem open_str2 {ts : List TypeId} {ds : List (DataW H)} (hsz : (DataW.weightsEach Try.prog ts ds).all (· ≤ reachBytes) = true) (j : Nat) {R : Reach} {base : Nat} {t : TypeId} {v : Value} {d : DataW H} {ps : List MemPlace} (ht : ts[j]? = some t) (hd : ds[j]? = some d)
    (hu : Try.prog.underlying t = some .string) (hv : Value.okWide Try.prog w R base t v) (h : DataW.Trod enc Try.prog w 0 sp held t v d ps) : ∃ q, OkStr q ∧ CRel (S0 w) w q v := by
  obtain ⟨a, rfl, rfl, rfl, y⟩ := Go.ChangeMaps.open_string hu hv h
  have hl := sized_string hsz ht hd
  have e : (Value.string a) = .string ⟨a.data.toList.toArray⟩ := by simp
  exact ⟨.str a.data.toList, ⟨_, rfl, by unfold reachBytes at hl; omega⟩, by rw [e]; exact .str _⟩
end
theorem walkLineNext (v0 v1 v2 v3 : Value) (W : World) (q0 : PV) (o0 : OkV Try.prog 9 22 q0) (r0 : CRel (S0 W) W q0 v0) (q1 : PV) (o1 : OkStr q1) (r1 : CRel (S0 W) W q1 v1) (q2 : PV) (o2 : OkV Try.prog 9 3 q2) (r2 : CRel (S0 W) W q2 v2) (q3 : PV) (o3 : OkV Try.prog 9 4 q3) (r3 : CRel (S0 W) W q3 v3) : Calls Try.prog 6 #[v0, v1, v2, v3] W fun e W' => e = .returned (.bool true) ∧ Below W.heap.size W W' := by
  obtain ⟨a0, rfl, k0⟩ := arg22 o0
  obtain ⟨a1, rfl, k1⟩ := o1
  obtain ⟨a2, rfl, k2⟩ := arg3 o2
  obtain ⟨a3, rfl, k3⟩ := arg4 o3
  refine law_run (args := [.sl 1 (a0.map byteE), .str a1, .int .i64 a2, .bool a3]) (vs := [v0, v1, v2, v3]) (next_to a0 a1 a2 a3 k0 k1 k2 k3) rfl ?_
  intro i p hp
  rcases i with _ | _ | _ | _ | i
  · simp at hp; subst hp; exact r0
  · simp at hp; subst hp; exact r1
  · simp at hp; subst hp; exact r2
  · simp at hp; subst hp; exact r3
  · simp at hp
end Go.Proofs.Ytemlofepmphgiaa
