import Derived.Test.YtmdijfchljgdaaaA
/-! DeleteFunc upon a box. -/
set_option linter.unusedSimpArgs false
set_option linter.unusedVariables false
set_option maxHeartbeats 4000000
set_option maxRecDepth 100000
namespace Go.Proofs.Ytmdijfchljgdaaa
open Go.RowKit

theorem boxH_app (l m : List GHole) : boxH (l ++ m) = boxH l ++ boxH m := by simp [boxH]
theorem setL_eq : ∀ (xs : List PV) (cs : List PV) (off : Nat), off + xs.length ≤ cs.length → setL cs off xs = cs.take off ++ xs ++ cs.drop (off + xs.length)
  | [], cs, off, _ => by simp [setL]
  | x :: xs, cs, off, h => by
    simp only [List.length_cons] at h
    rw [setL, setL_eq xs (cs.set off x) (off + 1) (by simp; omega)]
    rw [List.take_set, List.drop_set, if_pos (by omega), List.take_add_one, List.getElem?_eq_getElem (by omega)]
    simp only [Option.toList_some, List.length_cons]
    rw [List.set_append_right _ _ (by simp; omega), show off - (cs.take off).length = 0 by simp; omega, show off + 1 + xs.length = off + (xs.length + 1) by omega]
    simp
theorem boxH_take : ∀ (l : List GHole) (k : Nat), (boxH l).take (k * 13) = boxH (l.take k)
  | [], k => by simp [boxH]
  | x :: l, 0 => by simp [boxH]
  | x :: l, k + 1 => by
    have := boxH_take l k
    simp only [boxH, List.map_cons, List.flatten_cons, List.take_succ_cons] at this ⊢
    rw [show (k + 1) * 13 = x.cs.length + k * 13 by simp [GHole.cs]; omega, List.take_length_add_append, this]
theorem boxH_drop : ∀ (l : List GHole) (k : Nat), (boxH l).drop (k * 13) = boxH (l.drop k)
  | [], k => by simp [boxH]
  | x :: l, 0 => by simp [boxH]
  | x :: l, k + 1 => by
    have := boxH_drop l k
    simp only [boxH, List.map_cons, List.flatten_cons, List.drop_succ_cons] at this ⊢
    rw [show (k + 1) * 13 = x.cs.length + k * 13 by simp [GHole.cs]; omega, List.drop_length_add_append, this]
theorem boxH_set {l : List GHole} {k : Nat} (x : GHole) (h : k < l.length) : setL (boxH l) (k * 13) x.cs = boxH (l.take k ++ x :: l.drop (k + 1)) := by
  rw [setL_eq _ _ _ (by rw [boxH_len]; simp [GHole.cs]; omega), boxH_take, show k * 13 + x.cs.length = (k + 1) * 13 by simp [GHole.cs]; omega, boxH_drop, boxH_app]
  simp [boxH]
def zerosH (n : Nat) : List PV := (List.replicate n (default : GHole).cs).flatten
def keep (p : GHole → Bool) (l : List GHole) : List GHole := l.filter (fun x => !p x)
/-- The row when j were looked at. -/
def rowJ (p : GHole → Bool) (l : List GHole) (j : Nat) : List GHole := keep p (l.take j) ++ l.drop (keep p (l.take j)).length
theorem keep_succ {p : GHole → Bool} {l : List GHole} {j : Nat} (h : (j : Int) < l.length) : keep p (l.take (j + 1)) = keep p (l.take j) ++ (if p (l.getD j default) = true then [] else [l.getD j default]) := by
  rw [take_succ default h, keep, keep, List.filter_append]
  congr 1
  generalize l.getD j default = x
  cases hx : p x <;> simp [hx]
theorem keep_len (p : GHole → Bool) (l : List GHole) (j : Nat) : (keep p (l.take j)).length ≤ j := by
  have := List.length_filter_le (fun x => !p x) (l.take j)
  simp at this
  unfold keep
  omega
theorem rowJ_len (p : GHole → Bool) {l : List GHole} {j : Nat} (h : j ≤ l.length) : (rowJ p l j).length = l.length := by
  have := keep_len p l j
  unfold rowJ
  simp
  omega
theorem rowJ_get (p : GHole → Bool) {l : List GHole} {j : Nat} : (rowJ p l j).getD j default = l.getD j default := by
  have := keep_len p l j
  unfold rowJ
  rw [List.getD_eq_getElem?_getD, List.getD_eq_getElem?_getD, List.getElem?_append_right this, List.getElem?_drop]
  rw [show (keep p (l.take j)).length + (j - (keep p (l.take j)).length) = j by omega]
theorem rowJ_hit {p : GHole → Bool} {l : List GHole} {j : Nat} (h : (j : Int) < l.length) (hp : p (l.getD j default) = true) : keep p (l.take (j + 1)) = keep p (l.take j) ∧ rowJ p l (j + 1) = rowJ p l j := by
  have e : keep p (l.take (j + 1)) = keep p (l.take j) := by rw [keep_succ h, if_pos hp, List.append_nil]
  exact ⟨e, by unfold rowJ; rw [e]⟩
theorem rowJ_miss {p : GHole → Bool} {l : List GHole} {j : Nat} (h : (j : Int) < l.length) (hp : p (l.getD j default) = false) : (keep p (l.take (j + 1))).length = (keep p (l.take j)).length + 1 ∧ rowJ p l (j + 1) = (rowJ p l j).take (keep p (l.take j)).length ++ l.getD j default :: (rowJ p l j).drop ((keep p (l.take j)).length + 1) := by
  have e : keep p (l.take (j + 1)) = keep p (l.take j) ++ [l.getD j default] := by rw [keep_succ h, if_neg (by rw [hp]; simp)]
  refine ⟨by rw [e]; simp, ?_⟩
  unfold rowJ
  rw [e, List.take_left' rfl, List.drop_length_add_append, List.drop_drop, List.length_append]
  simp
theorem idx_neg {p : GHole → Bool} {l : List GHole} : ∀ (n k : Nat), idxAt p l k n = -1 → ∀ j, k ≤ j → j < k + n → p (l.getD j default) = false
  | 0, k, _, j, h1, h2 => by omega
  | n + 1, k, h, j, h1, h2 => by
    unfold idxAt at h
    split at h
    · omega
    · rename_i hp
      by_cases e : j = k
      · subst e; simpa using hp
      · exact idx_neg n (k + 1) h j (by omega) (by omega)
theorem idx_pos {p : GHole → Bool} {l : List GHole} : ∀ (n k : Nat), idxAt p l k n ≠ -1 → ∃ i : Nat, idxAt p l k n = i ∧ k ≤ i ∧ i < k + n ∧ p (l.getD i default) = true ∧ ∀ j, k ≤ j → j < i → p (l.getD j default) = false
  | 0, k, h => absurd rfl h
  | n + 1, k, h => by
    unfold idxAt at h ⊢
    split
    · rename_i hp
      exact ⟨k, rfl, by omega, by omega, hp, fun j h1 h2 => by omega⟩
    · rename_i hp
      rw [if_neg hp] at h
      obtain ⟨i, e, h1, h2, h3, h4⟩ := idx_pos n (k + 1) h
      refine ⟨i, e, by omega, by omega, h3, fun j h5 h6 => ?_⟩
      by_cases e2 : j = k
      · subst e2; simpa using hp
      · exact h4 j (by omega) h6
theorem keep_none {p : GHole → Bool} {l : List GHole} : ∀ {i : Nat}, i ≤ l.length → (∀ j, j < i → p (l.getD j default) = false) → keep p (l.take i) = l.take i
  | 0, _, _ => by simp [keep]
  | i + 1, hi, h => by
    rw [keep_succ (by omega), keep_none (by omega) (fun j hj => h j (by omega)), if_neg (by rw [h i (by omega)]; simp), take_succ default (by omega)]
end Go.Proofs.Ytmdijfchljgdaaa
