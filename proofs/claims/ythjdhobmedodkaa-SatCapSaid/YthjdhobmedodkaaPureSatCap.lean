import Derived.Test.YthjdhobmedodkaaPSatCapx1
/-! The pure side of the law SatCap: with the greatest number together all is that, at every input -/
namespace Go.Proofs.Ythjdhobmedodkaa.Pure
open Go.RowKit Go.Proofs.Ythjdhobmedodkaa.PSatCap Go.Proofs.YthjdhobmedodkaaW.PrintWords Go.Proofs.YthjdhobmedodkaaW.PrintLast Go.Proofs.YthjdhobmedodkaaW.PrintMore

/-- A number as it is taken. -/
def cl (n : Int) : Int := if n < 0 then 0 else if n > 1099511627776 then 1099511627776 else n
theorem cl_range (n : Int) : 0 ≤ cl n ∧ cl n ≤ 1099511627776 := by
  unfold cl; split <;> (try split) <;> omega
theorem cl_lt {n : Int} (h : n < 0) : cl n = 0 := by unfold cl; rw [if_pos h]
theorem cl_gt {n : Int} (h : n > 1099511627776) : cl n = 1099511627776 := by unfold cl; rw [if_neg (by omega), if_pos h]
theorem cl_in {n : Int} (h : 0 ≤ n) (h' : n ≤ 1099511627776) : cl n = n := by unfold cl; rw [if_neg (by omega), if_neg (by omega)]
theorem cl_say (n : Int) : (n < 0 ∧ cl n = 0) ∨ (n > 1099511627776 ∧ cl n = 1099511627776) ∨ (0 ≤ n ∧ n ≤ 1099511627776 ∧ cl n = n) := by
  by_cases h : n < 0
  · exact .inl ⟨h, cl_lt h⟩
  · by_cases h' : n > 1099511627776
    · exact .inr (.inl ⟨h', cl_gt h'⟩)
    · exact .inr (.inr ⟨by omega, by omega, cl_in (by omega) (by omega)⟩)
theorem wr_in {n : Int} (h : -9223372036854775808 ≤ n) (h' : n ≤ 9223372036854775807) : wrap64 n = n := by unfold wrap64; omega
theorem taken_eq (n : Int) : sat_taken.f n = some (cl n) := by unfold sat_taken.f cl; split <;> (try split) <;> rfl
theorem add_eq (a b : Int) : sat_Add.f a b = some (cl (cl a + cl b)) := by
  have h := cl_range a; have h' := cl_range b
  unfold sat_Add.f; simp only [taken_eq, Option.bind_some]; rw [wr_in (by omega) (by omega)]
/-- What is left. -/
def lf (a b : Int) : Int := if cl a - cl b < 0 then 0 else cl a - cl b
theorem lf_say (a b : Int) : (cl a ≤ cl b ∧ lf a b = 0) ∨ (cl b ≤ cl a ∧ lf a b = cl a - cl b) := by unfold lf; split <;> omega
theorem left_eq (a b : Int) : sat_Left.f a b = some (lf a b) := by
  have h := cl_range a; have h' := cl_range b
  unfold sat_Left.f; simp only [taken_eq, Option.bind_some]; rw [wr_in (by omega) (by omega)]; rfl
/-- What is spent. -/
def sp (a b n : Int) : Int := if lf a b < cl n then lf a b else cl n
theorem sp_say (a b n : Int) : (sp a b n = lf a b ∧ lf a b ≤ cl n) ∨ (sp a b n = cl n ∧ cl n ≤ lf a b) := by unfold sp; split <;> omega
theorem spend_eq (a b n : Int) : sat_Spend.f a b n = some (sp a b n, cl (cl b + cl (sp a b n))) := by
  unfold sat_Spend.f; simp only [taken_eq, left_eq, add_eq, Option.bind_some]; rfl
theorem may_eq (n : Int) : sat_May.f n = some (decide (0 ≤ n ∧ n ≤ 1099511627776)) := by
  unfold sat_May.f; split
  · congr 1; rw [decide_eq_decide]; omega
  · congr 1; symm; rw [decide_eq_false_iff_not]; omega
theorem awake_eq : wharfingerlaw01_awake.f = some true := by
  unfold wharfingerlaw01_awake.f; simp only [spend_eq, left_eq, add_eq, may_eq, Option.bind_some]; decide

theorem SatCap : wharfingerlaw01_SatCap.Pure := by
  intro a b _ _
  refine ⟨1, ?_⟩
  unfold wharfingerlaw01_SatCap.f
  simp only [awake_eq, add_eq, left_eq, Option.bind_some, wharfingerlaw01_SatCap.j0, if_true]
  have c0 : cl 0 = 0 := cl_in (by omega) (by omega)
  have cm : cl 1099511627776 = 1099511627776 := cl_in (by omega) (by omega)
  have l0 : lf 1099511627776 0 = 1099511627776 := by have := lf_say 1099511627776 0; rw [c0, cm] at *; omega
  rw [cm, l0, c0]
  have := cl_say a; have := cl_say b; have := cl_say (cl a + 1099511627776); have := lf_say b a; have := cl_say (cl a + cl b); have := cl_say (cl a + 0)
  rw [if_pos (by omega), if_neg (by simp)]
  by_cases hb : b ≥ 0
  · rw [if_pos hb]
  · rw [if_neg hb]
    have hz : cl b = 0 := by omega
    rw [if_pos (by rw [hz])]
    congr 1; simp; omega

end Go.Proofs.Ythjdhobmedodkaa.Pure
