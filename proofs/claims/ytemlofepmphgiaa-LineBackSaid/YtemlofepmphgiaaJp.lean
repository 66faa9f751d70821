import Derived.Test.YtemlofepmphgiaaJo
/-! Plain facts on what is taken. -/
set_option linter.unusedSimpArgs false
set_option linter.unusedVariables false
set_option maxHeartbeats 4000000
set_option maxRecDepth 100000
namespace Go.Proofs.Ytemlofepmphgiaa
open Go.RowKit

theorem put_cr (most : Int) (s : Rd) (c : UInt8) : (putS most s c).cr = s.cr := by
  unfold putS
  split
  · rfl
  · split <;> rfl
theorem take_cr (most : Int) (alone : Bool) (s : Rd) (c : UInt8) : (takeS most alone s c).cr = (c == 13) := by
  unfold takeS
  split
  · rename_i h
    unfold endC at h
    rw [Bool.and_eq_true] at h
    have : c = 10 := eq_of_beq h.1
    subst this
    rfl
  · split
    · rename_i h; exact h.symm
    · rename_i h; rw [put_cr, eq_comm, ← Bool.not_eq_true]; exact h
theorem take_out (most : Int) (alone : Bool) (s : Rd) (c : UInt8) : (takeS most alone s c).out.length = if endC s alone c = true then s.out.length + 1 else s.out.length := by
  unfold takeS
  split
  · simp
  · split
    · exact congrArg List.length (cr_len most s).2
    · rw [(put_len most _ c).2]; exact congrArg List.length (cr_len most s).2
theorem take_text {most : Int} {alone : Bool} {b : List UInt8} {o : List GLine} {c : UInt8} (hc : crlfC c = false) (hl : (b.length : Int) < most) : takeS most alone ⟨b, false, false, o⟩ c = ⟨b ++ [c], false, false, o⟩ := by
  unfold crlfC at hc
  rw [Bool.or_eq_false_iff] at hc
  have he : endC ⟨b, false, false, o⟩ alone c = false := by unfold endC; rw [hc.2, Bool.false_and]
  unfold takeS
  rw [he, hc.1, if_neg (by simp), if_neg (by simp)]
  show putS most ⟨b, false, false, o⟩ c = _
  unfold putS
  rw [if_neg (by simp), if_pos hl]
theorem feed_text {most : Int} {alone : Bool} {o : List GLine} : ∀ (s b : List UInt8), hasNl s = false → ((b.length + s.length : Nat) : Int) ≤ most → feedS most alone ⟨b, false, false, o⟩ s = ⟨b ++ s, false, false, o⟩
  | [], b, _, _ => by rw [List.append_nil]; rfl
  | c :: s, b, h, hl => by
    unfold hasNl at h
    rw [List.any_cons, Bool.or_eq_false_iff] at h
    show feedS most alone (takeS most alone ⟨b, false, false, o⟩ c) s = _
    rw [take_text h.1 (by rw [List.length_cons] at hl; omega), feed_text s (b ++ [c]) h.2 (by simp at hl ⊢; omega)]
    simp
/-- Behind a 13 and a 10 a line has ended, whatever was. -/
theorem feed_crlf (most : Int) (alone : Bool) (s : Rd) : feedS most alone s [13, 10] = ⟨[], false, false, s.out ++ [endLn (crS most s)]⟩ := by
  have h1 : takeS most alone s 13 = ⟨(crS most s).b, true, (crS most s).skip, (crS most s).out⟩ := by
    unfold takeS
    rw [if_neg (by simp [endC])]
    exact if_pos rfl
  show takeS most alone (takeS most alone s 13) 10 = _
  rw [h1]
  unfold takeS
  rw [if_pos (by simp [endC])]
  simp only [(cr_len most s).2]
  rfl
theorem crS_no {most : Int} {s : Rd} (h : s.cr = false) : crS most s = s := if_neg (by rw [h]; simp)
theorem feed_line {most : Int} {alone : Bool} {s : List UInt8} (o : List GLine) (h : badP s most = false) : feedS most alone ⟨[], false, false, o⟩ (s ++ [13, 10]) = ⟨[], false, false, o ++ [⟨s, false⟩]⟩ := by
  unfold badP at h
  rw [Bool.or_eq_false_iff] at h
  have hl := of_decide_eq_false h.1
  rw [feed_app, feed_text s [] h.2 (by simp; omega), feed_crlf, crS_no rfl]
  rfl
def backB (most : Int) (l : List (List UInt8)) : List UInt8 := (l.filter fun s => !badP s most).flatMap fun s => s ++ [13, 10]
def backW (most : Int) (l : List (List UInt8)) : List GLine := (l.filter fun s => !badP s most).map fun s => ⟨s, false⟩
theorem feed_back (most : Int) (alone : Bool) : ∀ (l : List (List UInt8)) (o : List GLine), feedS most alone ⟨[], false, false, o⟩ (backB most l) = ⟨[], false, false, o ++ backW most l⟩
  | [], o => by simp [backB, backW, feedS]
  | s :: l, o => by
    have ih := feed_back most alone l
    cases hb : badP s most with
    | true =>
      have e1 : backB most (s :: l) = backB most l := by unfold backB; rw [List.filter_cons_of_neg (by rw [hb]; simp)]
      have e2 : backW most (s :: l) = backW most l := by unfold backW; rw [List.filter_cons_of_neg (by rw [hb]; simp)]
      rw [e1, e2, ih]
    | false =>
      have e1 : backB most (s :: l) = (s ++ [13, 10]) ++ backB most l := by unfold backB; rw [List.filter_cons_of_pos (by rw [hb]; rfl), List.flatMap_cons]
      have e2 : backW most (s :: l) = ⟨s, false⟩ :: backW most l := by unfold backW; rw [List.filter_cons_of_pos (by rw [hb]; rfl), List.map_cons]
      rw [e1, e2, feed_app, feed_line o hb, ih, List.append_assoc]
      rfl
theorem backB_app (most : Int) (l m : List (List UInt8)) : backB most (l ++ m) = backB most l ++ backB most m := by simp [backB, List.filter_append]
theorem backW_app (most : Int) (l m : List (List UInt8)) : backW most (l ++ m) = backW most l ++ backW most m := by simp [backW, List.filter_append]
theorem backB_one {most : Int} {s : List UInt8} (h : badP s most = false) : backB most [s] = s ++ [13, 10] := by simp [backB, h]
theorem backB_no {most : Int} {s : List UInt8} (h : badP s most = true) : backB most [s] = [] := by simp [backB, h]
theorem backW_one {most : Int} {s : List UInt8} (h : badP s most = false) : backW most [s] = [⟨s, false⟩] := by simp [backW, h]
theorem backW_no {most : Int} {s : List UInt8} (h : badP s most = true) : backW most [s] = [] := by simp [backW, h]
theorem backW_len (most : Int) (l : List (List UInt8)) : (backW most l).length ≤ l.length := by
  unfold backW
  rw [List.length_map]
  exact List.length_filter_le _ _
theorem backB_len (most : Int) : ∀ (l : List (List UInt8)), (∀ s ∈ l, s.length ≤ 200) → (backB most l).length ≤ 202 * l.length
  | [], _ => by simp [backB]
  | s :: l, h => by
    have ih := backB_len most l fun x hx => h x (List.mem_cons_of_mem _ hx)
    have h1 := h s List.mem_cons_self
    have e : backB most (s :: l) = backB most [s] ++ backB most l := backB_app most [s] l
    rw [e, List.length_append, List.length_cons]
    cases hb : badP s most with
    | true => rw [backB_no hb]; simp; omega
    | false => rw [backB_one hb]; simp; omega
/-- A text of one byte, over and over. -/
theorem nl_rep {c : UInt8} (h : crlfC c = false) : ∀ n : Nat, hasNl (List.replicate n c) = false
  | 0 => rfl
  | n + 1 => by
    rw [List.replicate_succ]
    show (crlfC c || hasNl (List.replicate n c)) = false
    rw [h, nl_rep h n]
    rfl
theorem feed_over {c : UInt8} (h : crlfC c = false) (n : Nat) : feedS (n : Int) false ⟨[], false, false, []⟩ (List.replicate (n + 1) c ++ [13, 10]) = ⟨[], false, false, [⟨[], true⟩]⟩ := by
  rw [List.replicate_succ', List.append_assoc, feed_app, feed_text _ [] (nl_rep h n) (by simp)]
  have ht : takeS (n : Int) false ⟨[] ++ List.replicate n c, false, false, []⟩ c = ⟨[], false, true, []⟩ := by
    have h' := h
    unfold crlfC at h
    rw [Bool.or_eq_false_iff] at h
    have he : endC ⟨[] ++ List.replicate n c, false, false, []⟩ false c = false := by unfold endC; rw [h.2, Bool.false_and]
    unfold takeS
    rw [he, h.1, if_neg (by simp), if_neg (by simp)]
    show putS n ⟨[] ++ List.replicate n c, false, false, []⟩ c = _
    unfold putS
    rw [if_neg (by simp), if_neg (by simp)]
  show feedS (n : Int) false (takeS (n : Int) false _ c) [13, 10] = _
  rw [ht, feed_crlf, crS_no rfl]
  rfl
end Go.Proofs.Ytemlofepmphgiaa
