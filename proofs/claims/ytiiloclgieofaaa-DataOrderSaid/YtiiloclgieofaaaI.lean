import Derived.Test.YtiiloclgieofaaaLb
/-! What the functions of Go's library come to here. -/
set_option linter.unusedSimpArgs false
set_option linter.unusedVariables false
namespace Go.Proofs.Ytiiloclgieofaaa
open Go.RowKit
theorem i_u8 : (Try.prog.info? 5).map (fun i => (i.zero, i.size, i.bytes)) = some (some (.int .u8 0), 1, 1) := by kernel_rfl
theorem clone_calls (A : Option Addr) (n c : Nat) (l : List UInt8) (w : World) (hn : l.length = n) (hA : A = none → n = 0 ∧ c = 0) (hr : Row w A (bVs l)) (hb : n ≤ 140737488355328) :
    Calls Try.prog 28 #[.slice A n c] w fun e w' => ∃ v', e = .returned v' ∧ w'.ownsRow w.heap.size 5 1 v' n (bVs l) ∧ Below w.heap.size w w' := by
  subst hn
  have q22 : ∀ (w : World) (a : Option Addr) (n c n' c' : Nat), (binOp .eql 33 (.slice a n c) (.slice none n' c')).run Try.prog w = .ok (.bool a.isNone) w := fun w a n c n' c' => Lib.run_eql_slice_nil w _ _ a n c n' c' Try.underlying33
  cases A with
  | none =>
    obtain ⟨h1, rfl⟩ := hA rfl
    obtain rfl : l = [] := List.eq_nil_of_length_eq_zero h1
    clear h1 hA hr
    go_enter Try.func28, Try.ntmps28
    go_wp2
    go_ret
    exact ⟨_, rfl, World.ownsRow_nil w w.heap.size _ 1, Below.refl _ _⟩
  | some a =>
    have HR := Lib.hid hr
    clear hA hr
    go_enter Try.func28, Try.ntmps28
    go_wp2_with (at_builtin; refine wpList_append_row rfl _ _ 33 rfl w.heap.size 5 1 1 (.int .u8 0) Try.underlying33 i_u8 rfl (by decide) _ _ _ rfl (World.ownsRow_made w #[] 0 (Nat.le_refl _) (Nat.zero_le _) rfl) (some a) l.length c (bVs l) rfl (fun h => by cases h) (by rw [bVs_len, Nat.mul_one]) (HR.out.alloc _) (bVs_one l) (by unfold maxLen; omega) (by omega) (by simp) ?_; intro v' w1 ho hg _)
    go_ret
    rw [Nat.zero_add, List.nil_append] at ho
    exact ⟨_, rfl, ho, below_of_grown (below_alloc0 w _) hg (by simp) (own_ge (World.ownsRow_made w #[] 0 (Nat.le_refl _) (Nat.zero_le _) rfl : (w.alloc (.cells #[] 5)).ownsRow w.heap.size 5 1 _ 0 []))⟩
theorem clone_to (l : List UInt8) (hl : l.length ≤ 140737488355328) : CallsTo Try.prog 28 [.sl 1 (l.map byteE)] (.sl 1 (l.map byteE)) [] := by
  refine ⟨by kernel_rfl, fun w S vs hS hlen hrel => ?_⟩
  obtain ⟨v, rfl⟩ := List.length_eq_one_iff.1 hlen
  obtain ⟨A, c, e, h1, h2, h3, h4⟩ := bytes_rel (hrel 0 _ rfl)
  simp only [List.getD_cons_zero] at e
  subst e
  refine (clone_calls A l.length c l w rfl h3 h4 hl).mono ?_
  rintro e w' ⟨v', rfl, ho, hb⟩
  exact row_ends hS ho hb l.length (own_bytes ho)
end Go.Proofs.Ytiiloclgieofaaa
