import Derived.Test.YtgagnohelibaoaaDoorMe
/-! Plain facts on lines and commands. -/
set_option linter.unusedSimpArgs false
set_option linter.unusedVariables false
set_option maxHeartbeats 4000000
set_option maxRecDepth 100000
namespace Go.Proofs.YtgagnohelibaoaaDoor
open Go.RowKit

/-- A letter. -/
def letterC (c : UInt8) : Bool := (decide (97 ≤ (c.toNat : Int)) && decide ((c.toNat : Int) ≤ 122)) || (decide (65 ≤ (c.toNat : Int)) && decide ((c.toNat : Int) ≤ 90))
theorem letter_all : ∀ n : Fin 256, letterC (UInt8.ofNat n.val) = greatC (upC (UInt8.ofNat n.val)) ∧ (letterC (UInt8.ofNat n.val) = true → cleanC (UInt8.ofNat n.val) = true ∧ UInt8.ofNat n.val ≠ 32) := by decide +kernel
theorem letter_one (c : UInt8) : letterC c = greatC (upC c) ∧ (letterC c = true → cleanC c = true ∧ c ≠ 32) := by
  have := letter_all ⟨c.toNat, c.toNat_lt⟩
  simp only [UInt8.ofNat_toNat] at this
  exact this
theorem spot_app {r : List UInt8} : ∀ {n : List UInt8}, (∀ c ∈ n, c ≠ 32) → spot (n ++ 32 :: r) = n.length
  | [], _ => rfl
  | c :: n, h => by
    have h1 : (c == 32) = false := beq_eq_false_iff_ne.2 (h c (.head _))
    rw [List.cons_append, spot, h1]
    simp only [Bool.false_eq_true, if_false, List.length_cons]
    rw [spot_app fun d hd => h d (.tail _ hd)]
theorem spot_none : ∀ {n : List UInt8}, (∀ c ∈ n, c ≠ 32) → spot n = n.length
  | [], _ => rfl
  | c :: n, h => by
    have h1 : (c == 32) = false := beq_eq_false_iff_ne.2 (h c (.head _))
    rw [spot, h1]
    simp only [Bool.false_eq_true, if_false, List.length_cons]
    rw [spot_none fun d hd => h d (.tail _ hd)]
theorem cut_app {n r : List UInt8} (h : ∀ c ∈ n, c ≠ 32) : cutA (n ++ 32 :: r) = n ∧ cutD (n ++ 32 :: r) = r := by
  unfold cutA cutD
  rw [spot_app h]
  refine ⟨by simp, ?_⟩
  rw [show n ++ 32 :: r = (n ++ [32]) ++ r by simp, List.drop_left' (by simp)]
theorem cut_none {n : List UInt8} (h : ∀ c ∈ n, c ≠ 32) : cutA n = n ∧ cutD n = [] := by
  unfold cutA cutD
  rw [spot_none h]
  simp
theorem letters_32 {n : List UInt8} (h : n.all letterC = true) : ∀ c ∈ n, c ≠ 32 := fun c hc => ((letter_one c).2 (List.all_eq_true.1 h c hc)).2
theorem letters_clean {n : List UInt8} (h : n.all letterC = true) : cleanB n = true := List.all_eq_true.2 fun c hc => ((letter_one c).2 (List.all_eq_true.1 h c hc)).1
theorem name_up (n : List UInt8) : nameB (upB n) = (n.all letterC && (decide (n.length = 3) || decide (n.length = 4))) := by
  unfold nameB
  rw [up_len, upB, List.all_map]
  congr 1
  exact congrArg (fun f => n.all f) (funext fun c => (letter_one c).1.symm)
theorem clean_app (n r : List UInt8) : cleanB (n ++ r) = (cleanB n && cleanB r) := List.all_append
theorem clean_32 (r : List UInt8) : cleanB (32 :: r) = cleanB r := by
  unfold cleanB
  rw [List.all_cons]
  have : cleanC 32 = true := by decide
  rw [this]
  rfl
/-- What a line has that begins so. -/
def formB (n a : List UInt8) : Int := if (n.all letterC && (decide (n.length = 3) || decide (n.length = 4))) = false ∨ cleanB a = false then 2 else if findIs n = false then 3 else if mayB ⟨upB n, a⟩ = false then 1 else 0
theorem err_app {n a : List UInt8} (h : ∀ c ∈ n, c ≠ 32) : errB (n ++ 32 :: a) = formB n a := by
  obtain ⟨h1, h2⟩ := cut_app (r := a) h
  unfold errB formB
  rw [h1, h2, name_up, clean_app, clean_32]
  cases hn : (n.all letterC && (decide (n.length = 3) || decide (n.length = 4))) with
  | false => simp
  | true =>
    have hl : n.all letterC = true := by simp only [Bool.and_eq_true] at hn; exact hn.1
    rw [letters_clean hl]
    cases cleanB a <;> simp
theorem err_none {n : List UInt8} (h : ∀ c ∈ n, c ≠ 32) : errB n = formB n [] := by
  obtain ⟨h1, h2⟩ := cut_none h
  unfold errB formB
  rw [h1, h2, name_up]
  cases hn : (n.all letterC && (decide (n.length = 3) || decide (n.length = 4))) with
  | false => simp
  | true =>
    have hl : n.all letterC = true := by simp only [Bool.and_eq_true] at hn; exact hn.1
    rw [letters_clean hl]
    simp [cleanB]
theorem verb_good : ∀ v ∈ verbs, v.name.all letterC = true ∧ (decide (v.name.length = 3) || decide (v.name.length = 4)) = true ∧ upB v.name = v.name ∧ findG v.name = v ∧ findIs v.name = true ∧ 0 ≤ v.arg ∧ v.arg ≤ 2 := by decide +kernel
/-- What a command that may be is. -/
theorem may_is {c : GCmd} (h : mayB c = true) : findIs c.verb = true ∧ (findG c.verb).name = c.verb ∧ cleanB c.arg = true ∧ upB c.verb = c.verb ∧ c.verb.all letterC = true ∧ (decide (c.verb.length = 3) || decide (c.verb.length = 4)) = true := by
  unfold mayB at h
  split at h
  · cases h
  · rename_i hn
    simp only [not_or, Bool.not_eq_false, ne_eq, Decidable.not_not] at hn
    obtain ⟨h1, h2, h3⟩ := hn
    obtain ⟨e1, e2⟩ := find_name h1
    have := verb_good _ e1
    rw [h2] at this
    exact ⟨h1, h2, h3, this.2.2.1, this.1, this.2.1⟩
theorem print_read {c : GCmd} (h : mayB c = true) : errB (printB c) = 0 ∧ readV (printB c) = c ∧ cutA (printB c) = c.verb ∧ cutD (printB c) = c.arg ∧ cleanB (printB c) = true := by
  obtain ⟨v, a⟩ := c
  obtain ⟨h1, h2, h3, h4, h5, h6⟩ := may_is h
  simp only at h1 h2 h3 h4 h5 h6
  have h32 := letters_32 h5
  have ef : formB v a = 0 := by
    unfold formB
    rw [h4, h5, h6, h1, h3, h]
    simp
  unfold printB
  rw [if_pos h]
  unfold tailB
  simp only
  by_cases ha : a = []
  · subst ha
    obtain ⟨c1, c2⟩ := cut_none h32
    have e0 : errB v = 0 := by rw [err_none h32, ef]
    rw [if_pos (by rfl), List.append_nil]
    refine ⟨e0, ?_, c1, c2, letters_clean h5⟩
    unfold readV
    rw [if_pos e0, c1, c2, h4]
  · obtain ⟨c1, c2⟩ := cut_app (r := a) h32
    have e0 : errB (v ++ 32 :: a) = 0 := by rw [err_app h32, ef]
    have hb : (a == []) = false := beq_eq_false_iff_ne.2 ha
    rw [hb]
    simp only [Bool.false_eq_true, if_false]
    refine ⟨e0, ?_, c1, c2, by rw [clean_app, clean_32, letters_clean h5, h3]; rfl⟩
    unfold readV
    rw [if_pos e0, c1, c2, h4]
theorem print_one {c d : GCmd} (h1 : mayB c = true) (h2 : mayB d = true) : (printB c == printB d) = (c == d) := by
  by_cases e : c = d
  · subst e
    simp
  · have : printB c ≠ printB d := fun he => e (by rw [← (print_read h1).2.1, ← (print_read h2).2.1, he])
    rw [beq_eq_false_iff_ne.2 this, beq_eq_false_iff_ne.2 e]
theorem drop_spot : ∀ l : List UInt8, spot l < l.length → l.drop (spot l) = 32 :: l.drop (spot l + 1) := by
  intro l
  induction l with
  | nil => intro h; simp at h
  | cons c l ih =>
    intro h
    by_cases hc : c = 32
    · subst hc; rfl
    · have e1 : spot (c :: l) = spot l + 1 := by rw [spot, beq_eq_false_iff_ne.2 hc]; rfl
      rw [e1] at h ⊢
      rw [List.drop_succ_cons, List.drop_succ_cons]
      exact ih (by simpa using h)
end Go.Proofs.YtgagnohelibaoaaDoor
