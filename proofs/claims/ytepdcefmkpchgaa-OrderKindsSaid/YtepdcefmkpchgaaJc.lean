import Derived.Test.YtepdcefmkpchgaaJb
/-! Numbers. -/
set_option linter.unusedSimpArgs false
set_option linter.unusedVariables false
set_option maxHeartbeats 4000000
set_option maxRecDepth 100000
namespace Go.Proofs.Ytepdcefmkpchgaa
open Go.RowKit

def digC (c : UInt8) : Bool := decide (48 ≤ (c.toNat : Int)) && decide ((c.toNat : Int) ≤ 57)
def valN (s : List UInt8) : Nat := s.foldl (fun a c => 10 * a + (c.toNat - 48)) 0
theorem valN_app (s : List UInt8) (c : UInt8) : valN (s ++ [c]) = 10 * valN s + (c.toNat - 48) := by simp [valN]
theorem digC_is {c : UInt8} (h : digC c = true) : 48 ≤ c.toNat ∧ c.toNat ≤ 57 := by
  unfold digC at h
  simp at h
  omega
theorem valN_lt : ∀ n (s : List UInt8), s.length = n → s.all digC = true → valN s < 10 ^ n
  | 0, s, hl, _ => by
    have : s = [] := List.eq_nil_of_length_eq_zero hl
    subst this
    simp [valN]
  | n + 1, s, hl, h => by
    obtain ⟨t, c, rfl⟩ : ∃ t c, s = t ++ [c] := ⟨s.dropLast, s.getLast (by intro e; subst e; simp at hl), (List.dropLast_concat_getLast _).symm⟩
    simp only [List.all_append, List.all_cons, List.all_nil, Bool.and_true, Bool.and_eq_true] at h
    have h1 := valN_lt n t (by simpa using hl) h.1
    have h2 := digC_is h.2
    rw [valN_app, Nat.pow_succ]
    omega
theorem val_18 {s : List UInt8} (hl : s.length ≤ 18) (h : s.all digC = true) : valN s < 1000000000000000000 := by
  have h1 := valN_lt _ s rfl h
  have h2 : 10 ^ s.length ≤ 10 ^ 18 := Nat.pow_le_pow_right (by omega) hl
  omega
def digN (n : Nat) : UInt8 := UInt8.ofNat (48 + n)
def digs (n : Nat) : List UInt8 := if n < 10 then [digN n] else digs (n / 10) ++ [digN (n % 10)]
termination_by n
decreasing_by omega
theorem digs_lo {n : Nat} (h : n < 10) : digs n = [digN n] := by rw [digs, if_pos h]
theorem digs_hi {n : Nat} (h : ¬ n < 10) : digs n = digs (n / 10) ++ [digN (n % 10)] := by rw [digs, if_neg h]
theorem digs_ne (n : Nat) : digs n ≠ [] := by
  rw [digs]
  split <;> simp
theorem digN_c {c : UInt8} (h : digC c = true) : digN (c.toNat - 48) = c := by
  have := digC_is h
  unfold digN
  rw [show 48 + (c.toNat - 48) = c.toNat by omega]
  simp
def lead0 (s : List UInt8) : Prop := s.getD 0 0 = 48 ∧ 1 < s.length
/-- What is read of digits is written so, but for a 0 ahead. -/
theorem digs_val : ∀ n (s : List UInt8), s.length = n → s ≠ [] → s.all digC = true → ¬ lead0 s → digs (valN s) = s
  | 0, s, hl, hne, _, _ => absurd (List.eq_nil_of_length_eq_zero hl) hne
  | n + 1, s, hl, hne, h, h0 => by
    obtain ⟨t, c, rfl⟩ : ∃ t c, s = t ++ [c] := ⟨s.dropLast, s.getLast hne, (List.dropLast_concat_getLast _).symm⟩
    simp only [List.all_append, List.all_cons, List.all_nil, Bool.and_true, Bool.and_eq_true] at h
    have hc := digC_is h.2
    rw [valN_app]
    by_cases ht : t = []
    · subst ht
      rw [show valN [] = 0 from rfl, digs_lo (by omega), show 10 * 0 + (c.toNat - 48) = c.toNat - 48 by omega, digN_c h.2]
      rfl
    · have hlt : t.length = n := by simpa using hl
      have hpos : 0 < t.length := List.length_pos_iff.2 ht
      have hhead : t.getD 0 0 ≠ 48 := fun e => h0 ⟨by
        rw [List.getD_eq_getElem?_getD, List.getElem?_append_left hpos, ← List.getD_eq_getElem?_getD]
        exact e, by simp; omega⟩
      have ih := digs_val n t hlt ht h.1 (fun hl => hhead hl.1)
      have hv : 1 ≤ valN t := by
        rcases Nat.eq_zero_or_pos (valN t) with hz | hz
        · rw [hz, digs_lo (by omega)] at ih
          rw [← ih] at hhead
          exact absurd rfl hhead
        · exact hz
      rw [digs_hi (by omega), show (10 * valN t + (c.toNat - 48)) / 10 = valN t by omega, show (10 * valN t + (c.toNat - 48)) % 10 = c.toNat - 48 by omega, ih, digN_c h.2]
theorem digs_lead : ∀ n, ¬ lead0 (digs n) := by
  intro n
  induction n using Nat.strongRecOn with
  | ind n ih =>
    intro h
    by_cases h10 : n < 10
    · rw [digs_lo h10] at h
      have := h.2
      simp at this
    · rw [digs_hi h10] at h
      have hne := digs_ne (n / 10)
      have hpos : 0 < (digs (n / 10)).length := List.length_pos_iff.2 hne
      have e : (digs (n / 10)).getD 0 0 = 48 := by
        have := h.1
        rw [List.getD_eq_getElem?_getD, List.getElem?_append_left hpos, ← List.getD_eq_getElem?_getD] at this
        exact this
      by_cases h100 : n / 10 < 10
      · rw [digs_lo h100] at e
        have hz : n / 10 = 0 := by
          have h1 : (digN (n / 10)).toNat = 48 := by
            have : digN (n / 10) = 48 := by simpa using e
            rw [this]; rfl
          unfold digN at h1
          simp at h1
          omega
        omega
      · refine ih (n / 10) (by omega) ⟨e, ?_⟩
        rw [digs_hi h100]
        have := List.length_pos_iff.2 (digs_ne (n / 10 / 10))
        simp
        omega
theorem digs_iff {s : List UInt8} (hne : s ≠ []) (h : s.all digC = true) : (digs (valN s) == s) = !(decide (s.getD 0 0 = 48) && decide (1 < s.length)) := by
  by_cases h0 : lead0 s
  · have : digs (valN s) ≠ s := fun e => digs_lead (valN s) (by rw [e]; exact h0)
    rw [beq_eq_false_iff_ne.2 this]
    rw [decide_eq_true h0.1, decide_eq_true h0.2]
    rfl
  · rw [digs_val _ s rfl hne h h0]
    simp only [beq_self_eq_true]
    by_cases h1 : s.getD 0 0 = 48
    · have h2 : ¬ 1 < s.length := fun h => h0 ⟨h1, h⟩
      rw [decide_eq_false h2, Bool.and_false]; rfl
    · rw [decide_eq_false h1]; rfl
end Go.Proofs.Ytepdcefmkpchgaa
