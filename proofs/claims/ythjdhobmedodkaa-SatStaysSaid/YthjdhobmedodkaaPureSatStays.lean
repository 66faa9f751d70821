import Derived.Test.YthjdhobmedodkaaPSatStaysx1
/-! The pure side of the law SatStays: what is told may be, and what is spent is bounded, at every input -/
namespace Go.Proofs.Ythjdhobmedodkaa.Pure
open Go.RowKit Go.Proofs.Ythjdhobmedodkaa.PSatStays Go.Proofs.YthjdhobmedodkaaW.PrintWords Go.Proofs.YthjdhobmedodkaaW.PrintLast Go.Proofs.YthjdhobmedodkaaW.PrintMore

/-- A number as it is taken. -/
def cl (n : Int) : Int := if n < 0 then 0 else if n > 1099511627776 then 1099511627776 else n
theorem cl_range (n : Int) : 0 ≤ cl n ∧ cl n ≤ 1099511627776 := by
  unfold cl; split <;> (try split) <;> omega
theorem cl_lt {n : Int} (h : n < 0) : cl n = 0 := by unfold cl; rw [if_pos h]
theorem cl_gt {n : Int} (h : n > 1099511627776) : cl n = 1099511627776 := by unfold cl; rw [if_neg (by omega), if_pos h]
theorem cl_in {n : Int} (h : 0 ≤ n) (h' : n ≤ 1099511627776) : cl n = n := by unfold cl; rw [if_neg (by omega), if_neg (by omega)]
theorem cl_say (n : Int) : (n < 0 ∧ cl n = 0) ∨ (n > 1099511627776 ∧ cl n = 1099511627776) ∨ (0 ≤ n ∧ n ≤ 1099511627776 ∧ cl n = n) := by
  by_cases h : n < 0
  · exact .inl ⟨h, cl_lt h⟩
  · by_cases h' : n > 1099511627776
    · exact .inr (.inl ⟨h', cl_gt h'⟩)
    · exact .inr (.inr ⟨by omega, by omega, cl_in (by omega) (by omega)⟩)
theorem wr_in {n : Int} (h : -9223372036854775808 ≤ n) (h' : n ≤ 9223372036854775807) : wrap64 n = n := by unfold wrap64; omega
theorem taken_eq (n : Int) : sat_taken.f n = some (cl n) := by unfold sat_taken.f cl; split <;> (try split) <;> rfl
theorem add_eq (a b : Int) : sat_Add.f a b = some (cl (cl a + cl b)) := by
  have h := cl_range a; have h' := cl_range b
  unfold sat_Add.f; simp only [taken_eq, Option.bind_some]; rw [wr_in (by omega) (by omega)]
/-- What is left. -/
def lf (a b : Int) : Int := if cl a - cl b < 0 then 0 else cl a - cl b
theorem lf_say (a b : Int) : (cl a ≤ cl b ∧ lf a b = 0) ∨ (cl b ≤ cl a ∧ lf a b = cl a - cl b) := by unfold lf; split <;> omega
theorem left_eq (a b : Int) : sat_Left.f a b = some (lf a b) := by
  have h := cl_range a; have h' := cl_range b
  unfold sat_Left.f; simp only [taken_eq, Option.bind_some]; rw [wr_in (by omega) (by omega)]; rfl
/-- What is spent. -/
def sp (a b n : Int) : Int := if lf a b < cl n then lf a b else cl n
theorem sp_say (a b n : Int) : (sp a b n = lf a b ∧ lf a b ≤ cl n) ∨ (sp a b n = cl n ∧ cl n ≤ lf a b) := by unfold sp; split <;> omega
theorem spend_eq (a b n : Int) : sat_Spend.f a b n = some (sp a b n, cl (cl b + cl (sp a b n))) := by
  unfold sat_Spend.f; simp only [taken_eq, left_eq, add_eq, Option.bind_some]; rfl
theorem may_eq (n : Int) : sat_May.f n = some (decide (0 ≤ n ∧ n ≤ 1099511627776)) := by
  unfold sat_May.f; split
  · congr 1; rw [decide_eq_decide]; omega
  · congr 1; symm; rw [decide_eq_false_iff_not]; omega
theorem awake_eq : wharfingerlaw01_awake.f = some true := by
  unfold wharfingerlaw01_awake.f; simp only [spend_eq, left_eq, add_eq, may_eq, Option.bind_some]; decide

theorem SatStays : wharfingerlaw01_SatStays.Pure := by
  intro a b n _ _ _
  refine ⟨2, ?_⟩
  unfold wharfingerlaw01_SatStays.f
  simp only [awake_eq, spend_eq, left_eq, may_eq, Option.bind_some, wharfingerlaw01_SatStays.j0, wharfingerlaw01_SatStays.j1, if_true]
  have h1 := cl_say a; have h2 := cl_say b; have h3 := cl_say n; have h4 := lf_say a b; have h5 := sp_say a b n
  have h6 := cl_say (sp a b n); have h7 := cl_say (cl b + cl (sp a b n))
  generalize cl (cl b + cl (sp a b n)) = y at *
  generalize cl (sp a b n) = z at *
  generalize sp a b n = s at *
  generalize lf a b = l at *
  generalize cl a = ca at *
  generalize cl b = cb at *
  generalize cl n = cn at *
  have e1 : decide (0 ≤ s ∧ s ≤ 1099511627776) = true := by simp; omega
  have e2 : decide (0 ≤ y ∧ y ≤ 1099511627776) = true := by simp; omega
  have e3 : decide (0 ≤ l ∧ l ≤ 1099511627776) = true := by simp; omega
  have g1 : ¬ s > l := by omega
  have g2 : n ≥ 0 → ¬ s > n := by omega
  have g3 : n < 0 → (s != 0) = false := by intro hn; simp; omega
  simp only [e1, e2, e3, if_true, if_neg g1]
  have fin : ∀ t, t = false → (if t = true then (some false) else if decide (0 ≤ a ∧ a ≤ 1099511627776) = true then
      if (!decide (0 ≤ b ∧ b ≤ 1099511627776)) = true then some true else if b ≤ a then (if y ≤ a then (if y = wrap64 (b + s) then some (l == wrap64 (a - b)) else some false) else some false) else (if s = 0 then (if y = b then some (l == 0) else some false) else some false)
      else some true) = some true := by
    intro t ht; subst ht
    rw [if_neg (by simp)]
    by_cases ha : 0 ≤ a ∧ a ≤ 1099511627776
    · rw [if_pos (by simp [ha])]
      by_cases hb : 0 ≤ b ∧ b ≤ 1099511627776
      · rw [if_neg (by simp [hb])]
        by_cases hab : b ≤ a
        · rw [if_pos hab, if_pos (by omega), wr_in (by omega) (by omega), wr_in (by omega) (by omega), if_pos (by omega)]
          congr 1; simp; omega
        · rw [if_neg hab, if_pos (by omega), if_pos (by omega)]
          congr 1; simp; omega
      · rw [if_pos (by simp only [Bool.not_eq_true', decide_eq_false_iff_not]; exact hb)]
    · rw [if_neg (by simp only [decide_eq_true_eq]; exact ha)]
  by_cases hn : n ≥ 0
  · rw [if_pos hn, if_neg (g2 hn), if_neg (by omega)]; simpa using fin false rfl
  · rw [if_neg hn, if_pos (by omega), g3 (by omega)]; simpa using fin false rfl

end Go.Proofs.Ythjdhobmedodkaa.Pure
