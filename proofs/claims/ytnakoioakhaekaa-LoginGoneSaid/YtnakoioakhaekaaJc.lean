import Derived.Test.YtnakoioakhaekaaJb
/-! What Split tells. -/
set_option linter.unusedSimpArgs false
set_option linter.unusedVariables false
set_option maxHeartbeats 4000000
namespace Go.Proofs.Ytnakoioakhaekaa
open Go.RowKit

theorem last_none {s : List UInt8} : ∀ {n : Nat}, (∀ j, j < n → s.getD j 0 ≠ 64) → lastAt s n = none
  | 0, _ => rfl
  | n + 1, h => by
    unfold lastAt
    rw [if_neg (h n (by omega))]
    exact last_none fun j hj => h j (by omega)
theorem last_some {s : List UInt8} {k : Nat} (h1 : s.getD k 0 = 64) : ∀ {n : Nat}, k < n → (∀ j, k < j → j < n → s.getD j 0 ≠ 64) → lastAt s n = some k
  | 0, h, _ => by omega
  | n + 1, h, h2 => by
    unfold lastAt
    by_cases e : n = k
    · subst e
      rw [if_pos h1]
    · rw [if_neg (h2 n (by omega) (by omega))]
      exact last_some h1 (by omega) fun j hj hj2 => h2 j hj (by omega)
theorem split_is {s : List UInt8} (h : (splitB s).2.2 = true) : userB (splitB s).1 = true ∧ nameB (splitB s).2.1 = true := by
  unfold splitB at *
  cases hl : lastAt s s.length with
  | none => rw [hl] at h; cases h
  | some k =>
    rw [hl] at h
    by_cases hc : userB (s.take k) = true ∧ nameB (s.drop (k + 1)) = true
    · simp only [cutAt, if_pos hc]; exact hc
    · simp only [cutAt, if_neg hc] at h; cases h
theorem split_len (s : List UInt8) : (splitB s).1.length ≤ s.length ∧ (splitB s).2.1.length ≤ s.length := by
  unfold splitB
  cases hl : lastAt s s.length with
  | none => simp [cutAt]
  | some k =>
    by_cases hc : userB (s.take k) = true ∧ nameB (s.drop (k + 1)) = true
    · simp only [cutAt, if_pos hc]; simp; omega
    · simp [cutAt, if_neg hc]
theorem split_none {s : List UInt8} (h : lastAt s s.length = none) : (splitB s).2.2 = false := by unfold splitB; rw [h]; rfl
theorem split_bad {s : List UInt8} {k : Nat} (h : lastAt s s.length = some k) (hb : userB (s.take k) = false ∨ nameB (s.drop (k + 1)) = false) : (splitB s).2.2 = false := by
  unfold splitB; rw [h]; rcases hb with h | h <;> simp [cutAt, h]
theorem split_good {s : List UInt8} {k : Nat} (h : lastAt s s.length = some k) (h1 : userB (s.take k) = true) (h2 : nameB (s.drop (k + 1)) = true) : splitB s = (s.take k, s.drop (k + 1), true) := by
  unfold splitB; rw [h]; simp [cutAt, h1, h2]
def atNo (c : UInt8) : Bool := !(c == 64)
theorem at_all {s : List UInt8} (h : s.all atNo = true) (j : Nat) (hj : j < s.length) : s.getD j 0 ≠ 64 := by
  have := List.all_eq_true.1 h (s.getD j 0) (by rw [List.getD_eq_getElem?_getD, List.getElem?_eq_getElem hj]; simp)
  simpa [atNo] using this
theorem no_at {s : List UInt8} (h : s.all atNo = true) : (splitB s).2.2 = false := split_none (last_none (at_all h))
theorem end_at {s : List UInt8} : (splitB (s ++ [64])).2.2 = false := by
  refine split_bad (k := s.length) (last_some (by simp) (by simp) (fun j h1 h2 => by simp at h2; omega)) (.inr ?_)
  rw [List.drop_of_length_le (by simp)]
  rfl
theorem begin_at {s : List UInt8} (h : s.all atNo = true) : (splitB (64 :: s)).2.2 = false := by
  refine split_bad (k := 0) (last_some (by simp) (by simp) (fun j h1 h2 => ?_)) (.inl rfl)
  obtain ⟨i, rfl⟩ : ∃ i, j = i + 1 := ⟨j - 1, by omega⟩
  have := at_all h i (by simp at h2; omega)
  simpa using this
theorem name_at {s : List UInt8} (h : nameB s = true) : s.all atNo = true := by
  unfold nameB at h
  simp only [Bool.and_eq_true, List.all_eq_true] at h ⊢
  intro c hc
  have h1 := h.1 c hc
  unfold atNo
  cases e : c == 64 with
  | false => rfl
  | true =>
    rw [beq_iff_eq.1 e, sign_is] at h1
    exact absurd h1 (by decide)
theorem last_at {u h : List UInt8} (hu : userB u = true) (hn : nameB h = true) : splitB (u ++ [64] ++ h) = (u, h, true) := by
  have hat := name_at hn
  have hl : lastAt (u ++ [64] ++ h) (u ++ [64] ++ h).length = some u.length := last_some (by simp) (by simp) (fun j h1 h2 => by
    obtain ⟨i, rfl⟩ : ∃ i, j = u.length + 1 + i := ⟨j - (u.length + 1), by omega⟩
    have := at_all hat i (by simp at h2; omega)
    rw [List.getD_eq_getElem?_getD] at this ⊢
    rw [List.getElem?_append_right (by simp)]
    simpa [show u.length + 1 + i - (u.length + 1) = i by omega] using this)
  have e1 : (u ++ [64] ++ h).take u.length = u := by simp
  have e2 : (u ++ [64] ++ h).drop (u.length + 1) = h := by simp
  rw [split_good hl (by rw [e1]; exact hu) (by rw [e2]; exact hn), e1, e2]
theorem find_lt {l : List GTenant} {h : List UInt8} : ∀ (n k : Nat), k + n ≤ l.length → findAt l h k n < (k : Int) + n ∨ findAt l h k n = -1
  | 0, k, _ => .inr rfl
  | n + 1, k, hk => by
    unfold findAt
    split
    · exact .inl (by omega)
    · rcases find_lt (l := l) (h := h) n (k + 1) (by omega) with h | h
      · exact .inl (by omega)
      · exact .inr h
theorem find_ge {l : List GTenant} {h : List UInt8} : ∀ (n k : Nat), -1 ≤ findAt l h k n
  | 0, k => by simp [findAt]
  | n + 1, k => by
    unfold findAt
    split
    · omega
    · exact find_ge n (k + 1)
theorem findI_lt (l : List GTenant) (h : List UInt8) : findI l h < l.length ∧ -1 ≤ findI l h := by
  have h1 := find_lt (l := l) (h := h) l.length 0 (by omega)
  have h2 := find_ge (l := l) (h := h) l.length 0
  unfold findI
  omega
end Go.Proofs.Ytnakoioakhaekaa
