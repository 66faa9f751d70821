import Derived.Test.YthjdhobmedodkaaLib
/-! The law SatAdds: numbers together. -/
set_option linter.unusedSimpArgs false
set_option linter.unusedVariables false
namespace Go.Proofs.Ythjdhobmedodkaa
open Go.RowKit

/-- A number as it is taken. -/
def cl (n : Int) : Int := if n < 0 then 0 else if n > 1099511627776 then 1099511627776 else n
theorem cl_range (n : Int) : 0 ≤ cl n ∧ cl n ≤ 1099511627776 := by
  unfold cl; split <;> (try split) <;> omega
theorem cl_lt {n : Int} (h : n < 0) : cl n = 0 := by unfold cl; rw [if_pos h]
theorem cl_gt {n : Int} (h : n > 1099511627776) : cl n = 1099511627776 := by unfold cl; rw [if_neg (by omega), if_pos h]
theorem cl_in {n : Int} (h : 0 ≤ n) (h' : n ≤ 1099511627776) : cl n = n := by unfold cl; rw [if_neg (by omega), if_neg (by omega)]
theorem cl_say (n : Int) : (n < 0 ∧ cl n = 0) ∨ (n > 1099511627776 ∧ cl n = 1099511627776) ∨ (0 ≤ n ∧ n ≤ 1099511627776 ∧ cl n = n) := by
  by_cases h : n < 0
  · exact .inl ⟨h, cl_lt h⟩
  · by_cases h' : n > 1099511627776
    · exact .inr (.inl ⟨h', cl_gt h'⟩)
    · exact .inr (.inr ⟨by omega, by omega, cl_in (by omega) (by omega)⟩)
theorem ret_int {k : IntKind} {a b : Int} (h : a = b) : Ending.returned (.int k a) = .returned (.int k b) := by rw [h]

theorem taken_calls (n : Int) (w : World) : Calls Try.prog 18 #[.int .i64 n] w fun e w' => e = .returned (.int .i64 (cl n)) ∧ w = w' := by
  by_cases h : n < 0
  · have e := cl_lt h
    have E := Lib.hid e; clear e
    have g : decide (n < 0) = true := decide_eq_true h
    go_enter Try.func18, Try.ntmps18
    go_wp2
    all_goals (go_ret; exact ⟨ret_int E.out.symm, rfl⟩)
  · by_cases h' : n > 1099511627776
    · have e := cl_gt h'
      have E := Lib.hid e; clear e
      go_enter Try.func18, Try.ntmps18
      go_wp2
      all_goals (go_ret; exact ⟨ret_int E.out.symm, rfl⟩)
    · have e := cl_in (n := n) (by omega) (by omega)
      have E := Lib.hid e; clear e
      go_enter Try.func18, Try.ntmps18
      go_wp2
      all_goals (go_ret; exact ⟨ret_int E.out.symm, rfl⟩)

theorem wr_in {n : Int} (h : -9223372036854775808 ≤ n) (h' : n ≤ 9223372036854775807) : wrap64 n = n := by unfold wrap64; omega
theorem add_calls (a b : Int) (w : World) : Calls Try.prog 14 #[.int .i64 a, .int .i64 b] w fun e w' => e = .returned (.int .i64 (cl (cl a + cl b))) ∧ w = w' := by
  have ha := cl_range a
  have hb := cl_range b
  go_enter Try.func14, Try.ntmps14
  go_wp2_with (go_at_call 18; refine (taken_calls _ _).mono ?_; rintro e w' ⟨rfl, rfl⟩)
  go_ret
  exact ⟨rfl, rfl⟩
/-- What is left. -/
def lf (a b : Int) : Int := if cl a - cl b < 0 then 0 else cl a - cl b
theorem lf_say (a b : Int) : (cl a ≤ cl b ∧ lf a b = 0) ∨ (cl b ≤ cl a ∧ lf a b = cl a - cl b) := by unfold lf; split <;> omega
theorem left_calls (a b : Int) (w : World) : Calls Try.prog 16 #[.int .i64 a, .int .i64 b] w fun e w' => e = .returned (.int .i64 (lf a b)) ∧ w = w' := by
  have ha := cl_range a
  have hb := cl_range b
  go_enter Try.func16, Try.ntmps16
  go_wp2_with (go_at_call 18; refine (taken_calls _ _).mono ?_; rintro e w' ⟨rfl, rfl⟩)
  all_goals (go_ret; exact ⟨ret_int (by have := lf_say a b; omega), rfl⟩)
/-- Whether a number may be. -/
def mayB (n : Int) : Bool := decide (0 ≤ n ∧ n ≤ 1099511627776)
theorem ret_bool {a b : Bool} (h : a = b) : Ending.returned (.bool a) = .returned (.bool b) := by rw [h]
theorem may_calls (n : Int) (w : World) : Calls Try.prog 13 #[.int .i64 n] w fun e w' => e = .returned (.bool (mayB n)) ∧ w = w' := by
  go_enter Try.func13, Try.ntmps13
  go_wp2
  all_goals (go_ret; exact ⟨ret_bool (by unfold mayB; simp; try omega), rfl⟩)


theorem mayB_yes {n : Int} (h : 0 ≤ n) (h' : n ≤ 1099511627776) : mayB n = true := by unfold mayB; simp; omega
theorem mayB_no {n : Int} (h : n < 0 ∨ n > 1099511627776) : mayB n = false := by unfold mayB; simp; omega
/-- What is spent. -/
def sp (a b n : Int) : Int := if lf a b < cl n then lf a b else cl n
theorem spend_calls (a b n : Int) (w : World) : Calls Try.prog 10 #[.int .i64 a, .int .i64 b, .int .i64 n] w fun e w' => e = .returned (.tuple #[.int .i64 (sp a b n), .int .i64 (cl (cl b + cl (sp a b n)))]) ∧ w = w' := by
  have hs : (lf a b < cl n ∧ sp a b n = lf a b) ∨ (cl n ≤ lf a b ∧ sp a b n = cl n) := by unfold sp; split <;> omega
  rcases hs with ⟨h1, h2⟩ | ⟨h1, h2⟩
  · have H := Lib.hid h2; clear h2
    go_enter Try.func10, Try.ntmps10
    go_wp2_with (first | (go_at_call 18; refine (taken_calls _ _).mono ?_; rintro e w' ⟨rfl, rfl⟩) | (go_at_call 16; refine (left_calls _ _ _).mono ?_; rintro e w' ⟨rfl, rfl⟩) | (go_at_call 14; refine (add_calls _ _ _).mono ?_; rintro e w' ⟨rfl, rfl⟩))
    go_ret2
    exact ⟨by rw [H.out]; rfl, rfl⟩
  · have H := Lib.hid h2; clear h2
    go_enter Try.func10, Try.ntmps10
    go_wp2_with (first | (go_at_call 18; refine (taken_calls _ _).mono ?_; rintro e w' ⟨rfl, rfl⟩) | (go_at_call 16; refine (left_calls _ _ _).mono ?_; rintro e w' ⟨rfl, rfl⟩) | (go_at_call 14; refine (add_calls _ _ _).mono ?_; rintro e w' ⟨rfl, rfl⟩))
    go_ret2
    exact ⟨by rw [H.out]; rfl, rfl⟩
theorem awake_calls (w : World) : Calls Try.prog 9 #[] w fun e w' => e = .returned (.bool true) ∧ w = w' := by
  have e1 : sp 10 7 5 = 3 := by decide
  have e2 : cl (cl 7 + cl 3) = 10 := by decide
  have e3 : lf 10 7 = 3 := by decide
  have e4 : cl (cl 1099511627776 + cl 1) = 1099511627776 := by decide
  have e5 : mayB 0 = true := by decide
  have e6 : mayB (-1) = false := by decide
  have T1 := fun w => spend_calls 10 7 5 w
  have T2 := fun w => left_calls 10 7 w
  have T3 := fun w => add_calls 1099511627776 1 w
  have T4 := fun w => may_calls 0 w
  have T5 := fun w => may_calls (-1) w
  rw [e1, e2] at T1; rw [e3] at T2; rw [e4] at T3; rw [e5] at T4; rw [e6] at T5
  have H1 := Lib.hid T1; have H2 := Lib.hid T2; have H3 := Lib.hid T3; have H4 := Lib.hid T4; have H5 := Lib.hid T5
  clear T1 T2 T3 T4 T5 e1 e2 e3 e4 e5 e6
  go_enter Try.func9, Try.ntmps9
  go_wp2_with fail
  refine (H1.out _).mono ?_
  rintro e w' ⟨rfl, rfl⟩
  go_wp2_with fail
  refine (H2.out _).mono ?_
  rintro e w' ⟨rfl, rfl⟩
  go_wp2_with fail
  refine (H3.out _).mono ?_
  rintro e w' ⟨rfl, rfl⟩
  go_wp2_with fail
  refine (H4.out _).mono ?_
  rintro e w' ⟨rfl, rfl⟩
  go_wp2_with fail
  refine (H5.out _).mono ?_
  rintro e w' ⟨rfl, rfl⟩
  go_wp2
  go_ret
  exact ⟨rfl, rfl⟩
theorem SatAdds_walk (a b c : Int) (w : World) (wa : (Lit.int .i64 a).wf = true) (wb : (Lit.int .i64 b).wf = true) (_ : (Lit.int .i64 c).wf = true) :
    Calls Try.prog 6 #[.int .i64 a, .int .i64 b, .int .i64 c] w fun e w' => e = .returned (.bool true) ∧ Below w.heap.size w w' := by
  have s0 := cl_say a; have s1 := cl_say b; have s2 := cl_say c; have s3 := cl_say (cl a + cl b)
  have s4 := cl_say (cl (cl a + cl b)); have s5 := cl_say (cl (cl (cl a + cl b)) + cl c)
  have s6 := cl_say (cl b + cl c); have s7 := cl_say (cl (cl b + cl c)); have s8 := cl_say (cl a + cl (cl (cl b + cl c)))
  have s9 := cl_say (cl a + cl 0); have z0 : cl 0 = 0 := cl_in (by omega) (by omega)
  have k1 : cl (cl b + cl a) = cl (cl a + cl b) := by rw [Int.add_comm]
  have k2 : cl (cl (cl (cl a + cl b)) + cl c) = cl (cl a + cl (cl (cl b + cl c))) := by omega
  have c1 : (cl (cl a + cl b) != cl (cl b + cl a)) = false := by rw [k1]; simp
  have c2 : (cl (cl (cl (cl a + cl b)) + cl c) != cl (cl a + cl (cl (cl b + cl c)))) = false := by rw [k2]; simp
  clear k1 k2
  by_cases ha : a < 0 ∨ a > 1099511627776
  · have m1 := mayB_no ha
    clear s0 s1 s2 s3 s4 s5 s6 s7 s8 s9 z0 ha
    go_enter Try.func6, Try.ntmps6
    go_wp2_with (first | (go_at_call 9; refine (awake_calls _).mono ?_; rintro e w' ⟨rfl, rfl⟩) | (go_at_call 14; refine (add_calls _ _ _).mono ?_; rintro e w' ⟨rfl, rfl⟩) | (go_at_call 13; refine (may_calls _ _).mono ?_; rintro e w' ⟨rfl, rfl⟩))
    go_ret
    exact ⟨rfl, Below.refl _ _⟩
  · have m1 := mayB_yes (n := a) (by omega) (by omega)
    by_cases hb : b < 0 ∨ b > 1099511627776
    · have m2 := mayB_no hb
      clear s0 s1 s2 s3 s4 s5 s6 s7 s8 s9 z0 ha hb
      go_enter Try.func6, Try.ntmps6
      go_wp2_with (first | (go_at_call 9; refine (awake_calls _).mono ?_; rintro e w' ⟨rfl, rfl⟩) | (go_at_call 14; refine (add_calls _ _ _).mono ?_; rintro e w' ⟨rfl, rfl⟩) | (go_at_call 13; refine (may_calls _ _).mono ?_; rintro e w' ⟨rfl, rfl⟩))
      go_ret
      exact ⟨rfl, Below.refl _ _⟩
    · have m2 := mayB_yes (n := b) (by omega) (by omega)
      have d1 : (cl (cl a + cl 0) == a) = true := beq_iff_eq.2 (by omega)
      have d2 : decide (cl (cl a + cl b) ≥ a) = true := decide_eq_true (by omega)
      have d2' : a ≤ cl (cl a + cl b) := by omega
      have b1 : 0 ≤ a := by omega
      have b2 : a ≤ 1099511627776 := by omega
      have b3 : 0 ≤ b := by omega
      have b4 : b ≤ 1099511627776 := by omega
      by_cases hs : a + b > 1099511627776
      · clear s0 s1 s2 s3 s4 s5 s6 s7 s8 s9 z0 ha hb
        go_enter Try.func6, Try.ntmps6
        go_wp2_with (first | (go_at_call 9; refine (awake_calls _).mono ?_; rintro e w' ⟨rfl, rfl⟩) | (go_at_call 14; refine (add_calls _ _ _).mono ?_; rintro e w' ⟨rfl, rfl⟩) | (go_at_call 13; refine (may_calls _ _).mono ?_; rintro e w' ⟨rfl, rfl⟩))
        go_ret
        exact ⟨rfl, Below.refl _ _⟩
      · have d3 : (cl (cl a + cl b) == a + b) = true := beq_iff_eq.2 (by omega)
        clear s0 s1 s2 s3 s4 s5 s6 s7 s8 s9 z0 ha hb
        go_enter Try.func6, Try.ntmps6
        go_wp2_with (first | (go_at_call 9; refine (awake_calls _).mono ?_; rintro e w' ⟨rfl, rfl⟩) | (go_at_call 14; refine (add_calls _ _ _).mono ?_; rintro e w' ⟨rfl, rfl⟩) | (go_at_call 13; refine (may_calls _ _).mono ?_; rintro e w' ⟨rfl, rfl⟩))
        go_ret
        exact ⟨rfl, Below.refl _ _⟩
end Go.Proofs.Ythjdhobmedodkaa
