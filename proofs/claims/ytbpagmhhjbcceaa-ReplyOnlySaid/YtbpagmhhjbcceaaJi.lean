import Derived.Test.YtbpagmhhjbcceaaJh
/-! What is printed is taken again: plain facts. -/
set_option linter.unusedSimpArgs false
set_option linter.unusedVariables false
set_option maxHeartbeats 4000000
set_option maxRecDepth 100000
namespace Go.Proofs.Ytbpagmhhjbcceaa
open Go.RowKit

theorem digN_is {n : Nat} (h : n < 10) : (digN n).toNat = 48 + n := by
  unfold digN
  simp
  omega
theorem dig3 {code : Int} (h : 100 ≤ code ∧ code ≤ 999) : ∃ a b c : UInt8, dig code = [a, b, c] ∧ (48 ≤ a.toNat ∧ a.toNat ≤ 57) ∧ (48 ≤ b.toNat ∧ b.toNat ≤ 57) ∧ (48 ≤ c.toNat ∧ c.toNat ≤ 57) ∧ code = 100 * ((a.toNat : Int) - 48) + 10 * ((b.toNat : Int) - 48) + ((c.toNat : Int) - 48) ∧ 49 ≤ a.toNat := by
  obtain ⟨n, rfl⟩ : ∃ n : Nat, code = n := ⟨code.toNat, by omega⟩
  have e1 : ¬ n < 10 := by omega
  have e2 : ¬ n / 10 < 10 := by omega
  have e3 : n / 10 / 10 < 10 := by omega
  have d1 := digN_is (n := n / 10 / 10) (by omega)
  have d2 := digN_is (n := n / 10 % 10) (by omega)
  have d3 := digN_is (n := n % 10) (by omega)
  refine ⟨digN (n / 10 / 10), digN (n / 10 % 10), digN (n % 10), ?_, by omega, by omega, by omega, by omega, by omega⟩
  show digs ((n : Int).toNat) = _
  rw [Int.toNat_natCast, digs_hi e1, digs_hi e2, digs_lo e3]
  rfl
theorem cleanC_is {c : UInt8} : cleanC c = true ↔ 32 ≤ c.toNat ∧ c.toNat ≤ 126 := by
  unfold cleanC
  simp
  omega
theorem clean_app (a b : List UInt8) : cleanB (a ++ b) = (cleanB a && cleanB b) := by unfold cleanB; rw [List.all_append]
theorem clean_dig {code : Int} (h : 100 ≤ code ∧ code ≤ 999) : cleanB (dig code) = true := by
  obtain ⟨a, b, c, e, ha, hb, hc, _⟩ := dig3 h
  rw [e]
  unfold cleanB
  simp only [List.all_cons, List.all_nil, Bool.and_true, Bool.and_eq_true]
  exact ⟨cleanC_is.2 (by omega), cleanC_is.2 (by omega), cleanC_is.2 (by omega)⟩
theorem dig_three {code : Int} (h : 100 ≤ code ∧ code ≤ 999) : (dig code).length = 3 := by
  obtain ⟨a, b, c, e, _⟩ := dig3 h
  rw [e]; rfl
theorem dig_inj {c c' : Int} (h : 100 ≤ c ∧ c ≤ 999) (h' : 100 ≤ c' ∧ c' ≤ 999) (e : dig c = dig c') : c = c' := by
  obtain ⟨x, y, z, e1, _, _, _, e2, _⟩ := dig3 h
  obtain ⟨x', y', z', e1', _, _, _, e2', _⟩ := dig3 h'
  rw [e1, e1'] at e
  simp only [List.cons.injEq, and_true] at e
  obtain ⟨rfl, rfl, rfl⟩ := e
  omega
theorem get_code {code : Int} (h : 100 ≤ code ∧ code ≤ 599) : getB (dig code) 599 = (code, true) := by
  obtain ⟨a, b, c, e, ha, hb, hc, ev, h49⟩ := dig3 (code := code) (by omega)
  have hv : (valN [a, b, c] : Int) = code := by
    simp only [valN, List.foldl_cons, List.foldl_nil]
    omega
  have hd : [a, b, c].all digC = true := by
    simp only [List.all_cons, List.all_nil, Bool.and_true, Bool.and_eq_true]
    refine ⟨?_, ?_, ?_⟩ <;> (unfold digC; simp; omega)
  rw [e]
  unfold getB
  rw [if_neg, hv]
  rintro (h1 | h1 | h1 | h1 | h1)
  · cases h1
  · simp at h1
  · have : a = 48 := h1.1
    rw [this] at h49
    simp at h49
  · rw [hd] at h1; cases h1
  · rw [hv] at h1; omega
theorem pre_app (d s : List UInt8) : pre (d ++ [32]) (d ++ 32 :: s) = true := by
  unfold pre
  rw [show d ++ 32 :: s = (d ++ [32]) ++ s by simp, List.take_left' rfl]
  exact beq_self_eq_true _
theorem last_yes (d s : List UInt8) : lastB d (d ++ 32 :: s) = true := by
  rw [lastB_is, pre_app, Bool.or_true]
theorem ends_yes (d s : List UInt8) : (endsB d (d ++ 32 :: s)).1 = s := by
  unfold endsB cutB
  rw [if_neg, if_pos (pre_app d s)]
  · show List.drop (d ++ [32]).length (d ++ 32 :: s) = s
    rw [show d ++ 32 :: s = (d ++ [32]) ++ s by simp, List.drop_left' rfl]
  · intro h
    have := congrArg List.length (beq_iff_eq.1 h)
    simp at this
theorem last_no {d d' s : List UInt8} {c : UInt8} (hl : d.length = d'.length) (h : d ≠ d' ∨ c ≠ 32) : lastB d (d' ++ c :: s) = false := by
  rw [lastB_is, Bool.or_eq_false_iff]
  refine ⟨?_, ?_⟩
  · rw [beq_eq_false_iff_ne]
    intro e
    have := congrArg List.length e
    simp at this
    omega
  · unfold pre
    rw [beq_eq_false_iff_ne]
    intro e
    rw [show d' ++ c :: s = (d' ++ [c]) ++ s by simp, List.take_left' (by simp [hl])] at e
    have e1 := List.append_inj e hl.symm
    rcases h with h | h
    · exact h e1.1.symm
    · simp only [List.cons.injEq, and_true] at e1
      exact h e1.2
theorem take_clean {c : Int} {l : List (List UInt8)} {o : Bool} {s : List UInt8} (hc : cleanB s = true) (hs : s.length ≤ 504) : takeB c l o s = if o = true then (if lastB (dig c) s = true then ⟨0, [], false, c, nextB c l s, true, 0⟩ else if 19 ≤ l.length then noT 5 else ⟨c, l ++ [s], true, 0, [], false, 0⟩) else firstT s := by
  unfold takeB
  rw [if_neg (by rw [hc]; simp; omega)]
theorem clean_line {code : Int} (h : 100 ≤ code ∧ code ≤ 599) {c : UInt8} (hc : 32 ≤ c.toNat ∧ c.toNat ≤ 126) {s : List UInt8} (hs : cleanB s = true) (hl : s.length ≤ 500) : cleanB (dig code ++ c :: s) = true ∧ (dig code ++ c :: s).length ≤ 504 := by
  have h3 := dig_three (code := code) (by omega)
  refine ⟨?_, by simp [h3]; omega⟩
  rw [clean_app, clean_dig (by omega), Bool.true_and]
  unfold cleanB at hs ⊢
  rw [List.all_cons, hs, cleanC_is.2 hc]
  rfl
theorem first_line {code : Int} (h : 100 ≤ code ∧ code ≤ 599) {c : UInt8} {s : List UInt8} : firstT (dig code ++ c :: s) = if lastB (dig code) (dig code ++ c :: s) = true then ⟨0, [], false, code, [(endsB (dig code) (dig code ++ c :: s)).1], true, 0⟩ else if c ≠ 45 then noT 2 else ⟨code, [s], true, 0, [], false, 0⟩ := by
  have h3 := dig_three (code := code) (by omega)
  have et : List.take 3 (dig code ++ c :: s) = dig code := by rw [← h3, List.take_left' rfl]
  have eg : (dig code ++ c :: s).getD 3 0 = c := by
    rw [List.getD_eq_getElem?_getD, List.getElem?_append_right (by omega), h3]
    rfl
  have ed : List.drop 4 (dig code ++ c :: s) = s := by
    rw [show dig code ++ c :: s = (dig code ++ [c]) ++ s by simp, List.drop_left' (by simp [h3])]
  unfold firstT
  rw [if_neg (by simp [h3]), et, get_code h, if_neg (by simp; omega), eg, ed]
theorem take_open {code : Int} (h : 100 ≤ code ∧ code ≤ 599) {s : List UInt8} (hs : cleanB s = true) (hl : s.length ≤ 500) (c : Int) (l : List (List UInt8)) : takeB c l false (dig code ++ 45 :: s) = ⟨code, [s], true, 0, [], false, 0⟩ := by
  have hc := clean_line h (c := 45) (by decide) hs hl
  rw [take_clean hc.1 hc.2, if_neg (by simp), first_line h, if_neg (by rw [last_no rfl (.inr (by decide))]; simp), if_neg (by simp)]
theorem take_only {code : Int} (h : 100 ≤ code ∧ code ≤ 599) {s : List UInt8} (hs : cleanB s = true) (hl : s.length ≤ 500) (c : Int) (l : List (List UInt8)) : takeB c l false (dig code ++ 32 :: s) = ⟨0, [], false, code, [s], true, 0⟩ := by
  have hc := clean_line h (c := 32) (by decide) hs hl
  rw [take_clean hc.1 hc.2, if_neg (by simp), first_line h, if_pos (last_yes _ _), ends_yes]
theorem take_last {code : Int} (h : 100 ≤ code ∧ code ≤ 599) {s : List UInt8} (hs : cleanB s = true) (hl : s.length ≤ 500) (l : List (List UInt8)) : takeB code l true (dig code ++ 32 :: s) = ⟨0, [], false, code, l ++ [s], true, 0⟩ := by
  have hc := clean_line h (c := 32) (by decide) hs hl
  rw [take_clean hc.1 hc.2, if_pos rfl, if_pos (last_yes _ _), nextB, ends_yes]
theorem take_mid {code : Int} {s : List UInt8} (hs : cleanB s = true) (hl : s.length ≤ 504) (hn : lastB (dig code) s = false) {l : List (List UInt8)} (h19 : l.length < 19) : takeB code l true s = ⟨code, l ++ [s], true, 0, [], false, 0⟩ := by
  rw [take_clean hs hl, if_pos rfl, if_neg (by rw [hn]; simp), if_neg (by omega)]
theorem may_clean {r : GReply} (h : mayP r) {k : Nat} (hk : k < r.lines.length) : cleanB (r.lines.getD k []) = true := by
  have := h.2.2 k hk
  unfold lineB at this
  simp only [Bool.and_eq_true] at this
  exact this.1.1
theorem may_mid {r : GReply} (h : mayP r) {k : Nat} (h0 : 0 < k) (hk : k + 1 < r.lines.length) : lastB (dig r.code) (r.lines.getD k []) = false := by
  have := h.2.2 k (by omega)
  unfold lineB at this
  simp only [Bool.and_eq_true, Bool.or_eq_true, decide_eq_true_eq] at this
  rcases this.2 with (h | h) | h
  · omega
  · omega
  · simpa using h
/-- What has come behind k lines that were printed. -/
def gathN (r : GReply) (k : Nat) : Int × List (List UInt8) × Bool := if k = 0 ∨ k = r.lines.length then (0, [], false) else (r.code, r.lines.take k, true)
theorem gath_step {r : GReply} (h : mayP r) {k : Nat} (hk : k < r.lines.length) :
    takeB (gathN r k).1 (gathN r k).2.1 (gathN r k).2.2 ((printL r).getD k []) = ⟨(gathN r (k + 1)).1, (gathN r (k + 1)).2.1, (gathN r (k + 1)).2.2, if k + 1 = r.lines.length then r.code else 0, if k + 1 = r.lines.length then r.lines else [], decide (k + 1 = r.lines.length), 0⟩ := by
  have hcode := h.1
  have h20 := h.2.1
  have hcl := may_clean h hk
  have hln := may_line h k
  have g0 : k = 0 → gathN r k = (0, [], false) := fun e => if_pos (.inl e)
  have g1 : k ≠ 0 → gathN r k = (r.code, r.lines.take k, true) := fun e => if_neg (by omega)
  have g2 : k + 1 = r.lines.length → gathN r (k + 1) = (0, [], false) := fun e => if_pos (.inr e)
  have g3 : k + 1 ≠ r.lines.length → gathN r (k + 1) = (r.code, r.lines.take (k + 1), true) := fun e => if_neg (by omega)
  rw [printL_at hk]
  by_cases hl : k + 1 = r.lines.length
  · have ho : outAt (dig r.code) k r.lines.length (r.lines.getD k []) = dig r.code ++ 32 :: r.lines.getD k [] := if_pos hl
    rw [g2 hl, ho, if_pos hl, if_pos hl, decide_eq_true hl]
    by_cases h0 : k = 0
    · rw [g0 h0, take_only hcode hcl hln]
      have e : [r.lines.getD k []] = r.lines := by
        subst h0
        obtain ⟨x, hx⟩ := List.length_eq_one_iff.1 hl.symm
        rw [hx]
        rfl
      rw [e]
    · rw [g1 h0, take_last hcode hcl hln]
      have e : r.lines.take k ++ [r.lines.getD k []] = r.lines := by
        rw [← take_succ [] (by omega), hl, List.take_length]
      simp only [e]
  · rw [g3 hl, if_neg hl, if_neg hl, decide_eq_false hl]
    by_cases h0 : k = 0
    · have ho : outAt (dig r.code) k r.lines.length (r.lines.getD k []) = dig r.code ++ 45 :: r.lines.getD k [] := by unfold outAt; rw [if_neg hl, if_pos h0]
      rw [g0 h0, ho, take_open hcode hcl hln]
      have e : r.lines.take (k + 1) = [r.lines.getD k []] := by
        rw [take_succ [] (by omega), h0]
        rfl
      simp only [e]
    · have ho : outAt (dig r.code) k r.lines.length (r.lines.getD k []) = r.lines.getD k [] := by unfold outAt; rw [if_neg hl, if_neg h0]
      rw [g1 h0, ho, take_mid hcl (by omega) (may_mid h (by omega) (by omega)) (by simp; omega)]
      have e : r.lines.take (k + 1) = r.lines.take k ++ [r.lines.getD k []] := take_succ [] (by omega)
      simp only [e]
end Go.Proofs.Ytbpagmhhjbcceaa
