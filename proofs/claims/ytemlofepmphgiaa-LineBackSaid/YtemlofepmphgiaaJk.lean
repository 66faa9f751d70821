import Derived.Test.YtemlofepmphgiaaJj
/-! The document's Print. -/
set_option linter.unusedSimpArgs false
set_option linter.unusedVariables false
set_option maxHeartbeats 4000000
set_option maxRecDepth 100000
namespace Go.Proofs.Ytemlofepmphgiaa
open Go.RowKit

theorem get_at (s : List UInt8) (k : Nat) (h : k < (⟨s.toArray⟩ : ByteArray).size) : (⟨s.toArray⟩ : ByteArray)[k] = s.getD k 0 := by
  rw [size_byte] at h
  show s.toArray[k] = _
  simp [List.getD_eq_getElem?_getD, List.getElem?_eq_getElem h]
theorem refprint_calls (s : List UInt8) (most : Int) (hs : s.length ≤ 140737488351232) (w : World) : Calls Try.prog 15 #[.string ⟨s.toArray⟩, .int .i64 most] w fun e w' => Below w.heap.size w w' ∧
    ((badP s most = true ∧ e = .returned (.tuple #[.slice none 0 0, .bool false])) ∨ (badP s most = false ∧ ∃ v', e = .returned (.tuple #[v', .bool true]) ∧ Laid w' w.heap.size v' (s ++ [13, 10]))) := by
  have hsz : (⟨s.toArray⟩ : ByteArray).size = s.length := size_byte s
  by_cases hm : most < (s.length : Int)
  · have hbad : badP s most = true := by unfold badP; rw [decide_eq_true hm, Bool.true_or]
    have HB := Lib.hid hbad
    clear hbad
    go_enter Try.func15, Try.ntmps15
    go_wp2
    all_goals go_ret2
    all_goals exact ⟨Below.refl _ _, .inl ⟨HB.out, rfl⟩⟩
  · have hbp : badP s most = hasNl s := by unfold badP; rw [decide_eq_false (by omega : ¬ ((s.length : Int) > most)), Bool.false_or]
    have HP := Lib.hid hbp
    have HN : Hid (hasNl (s.drop 0) = hasNl s) := rfl
    clear hbp
    go_enter Try.func15, Try.ntmps15
    go_wp2
    go_loop [6] (fun i => ∃ k : Nat, k ≤ s.length ∧ i = .int .i64 k ∧ Hid (hasNl (s.drop k) = hasNl s)) (fun i => s.length - (intOf i).toNat)
    case atStart => exact ⟨0, Nat.zero_le _, rfl, HN⟩
    case round =>
      obtain ⟨k, hk, rfl, H⟩ := hrel
      clear HN
      by_cases hlt : k < s.length
      · have hg := get_at s k (by rw [hsz]; exact hlt)
        have hd : hasNl (s.drop k) = (crlfC (s.getD k 0) || hasNl (s.drop (k + 1))) := by
          rw [List.drop_eq_getElem_cons hlt, List.getD_eq_getElem?_getD, List.getElem?_eq_getElem hlt]
          rfl
        generalize s.getD k 0 = c at hg hd
        have hcr : crlfC c = (decide ((c.toNat : Int) = 13) || decide ((c.toNat : Int) = 10)) := by
          unfold crlfC
          congr 1 <;> rw [Bool.eq_iff_iff] <;> simp [← UInt8.toNat_inj] <;> omega
        by_cases h10 : (c.toNat : Int) = 10
        · have hbad : badP s most = true := by rw [HP.out, ← H.out, hd, hcr, decide_eq_true h10]; simp
          have HB := Lib.hid hbad
          clear hd hcr hbad HP H
          go_wp2
          all_goals go_ret2
          all_goals exact ⟨Below.refl _ _, .inl ⟨HB.out, rfl⟩⟩
        · by_cases h13 : (c.toNat : Int) = 13
          · have hbad : badP s most = true := by rw [HP.out, ← H.out, hd, hcr, decide_eq_true h13]; simp
            have HB := Lib.hid hbad
            clear hd hcr hbad HP H
            go_wp2
            all_goals go_ret2
            all_goals exact ⟨Below.refl _ _, .inl ⟨HB.out, rfl⟩⟩
          · have H2 : Hid (hasNl (s.drop (k + 1)) = hasNl s) := by
              have h := H.out
              rw [hd, hcr, decide_eq_false h10, decide_eq_false h13, Bool.false_or, Bool.false_or] at h
              exact h
            have g10 : ((c.toNat : Int) == 10) = false := beq_eq_false_iff_ne.2 h10
            have g13 : ((c.toNat : Int) == 13) = false := beq_eq_false_iff_ne.2 h13
            clear hd hcr H
            go_wp2
            all_goals (go_round; case rel => exact ⟨k + 1, by omega, by go_num, H2⟩)
            all_goals (simp [intOf]; omega)
      · have hbad : badP s most = false := by rw [HP.out, ← H.out, List.drop_eq_nil_of_le (by omega)]; rfl
        have HB := Lib.hid hbad
        clear hbad HP H
        go_wp2
        rw [Lib.run_convert_string_bytes w 9 22 5 ⟨s.toArray⟩ (u := .string) Try.underlying9 Try.underlying22 Try.underlying5, hsz]
        simp only [Result.andThen]
        rw [Oper.upon_value]
        have hL := conv_laid w s (by unfold maxLen; omega)
        have hB := bytes_below w s
        generalize grownCap w s.length 0 5 = cap at hL ⊢
        generalize Lib.bytesWorld w 5 ⟨s.toArray⟩ = W2 at hL hB ⊢
        have HL := Lib.hid hL
        have HW := Lib.hid hB
        clear hL hB
        go_wp2_with (at_builtin; obtain ⟨v', w2, hr, hl, hb⟩ := app_laid (m := [13, 10]) (HL.out.ext (below_alloc0 W2 (.cells #[.int .u8 13, .int .u8 10] 5))) ⟨W2.heap.size, 0, none⟩ 2 (crlf_cells W2) (by simp; omega) (Nat.le_trans HW.out.size (below_alloc0 W2 _).size); refine Lib.wpList_append_run _ rfl _ _ _ _ rfl _ _ rfl rfl _ _ hr ?_)
        go_ret2
        refine ⟨?_, .inr ⟨HB.out, v', rfl, hl⟩⟩
        exact HW.out.trans (((below_alloc0 W2 _).mono HW.out.size).trans hb)
def printR (s : List UInt8) (most : Int) : PV := if badP s most = true then .tup [.sl 0 [], .bool false] else .tup [.sl 1 ((s ++ [13, 10]).map byteE), .bool true]
theorem print_any {f : FuncId} (s : List UInt8) (most : Int) (hc : callable Try.prog f = true) (h : ∀ w, Calls Try.prog f #[.string ⟨s.toArray⟩, .int .i64 most] w fun e w' => Below w.heap.size w w' ∧
    ((badP s most = true ∧ e = .returned (.tuple #[.slice none 0 0, .bool false])) ∨ (badP s most = false ∧ ∃ v', e = .returned (.tuple #[v', .bool true]) ∧ Laid w' w.heap.size v' (s ++ [13, 10])))) :
    CallsTo Try.prog f [.str s, .int .i64 most] (printR s most) [] := by
  refine ⟨hc, fun w S vs hS hlen hrel => ?_⟩
  have h1 := hrel 0 _ rfl
  have h2 := hrel 1 _ rfl
  obtain ⟨v0, v1, rfl⟩ : ∃ a b, vs = [a, b] := by
    match vs, hlen with
    | [a, b], _ => exact ⟨a, b, rfl⟩
  simp only [List.getD_cons_zero, List.getD_cons_succ] at h1 h2
  cases h1
  cases h2
  refine (h w).mono ?_
  rintro e w' ⟨hb, ⟨hbad, rfl⟩ | ⟨hbad, v', rfl, hl⟩⟩
  · have hr : CRel S w' (printR s most) (.tuple #[.slice none 0 0, .bool false]) := by
      rw [printR, if_pos hbad]
      refine .tup _ _ rfl fun i p hi => ?_
      match i, hi with
      | 0, hi => cases hi; exact .sl 0 [] none 0 1 (fun _ _ => .bool false) (by omega) (fun _ => rfl) (fun _ => ⟨rfl, rfl⟩) (Nat.le_refl _) (Nat.zero_le _) (fun x h => by cases h) (fun _ _ => rfl) (fun i j x p h => by simp at h) (fun i j x p h => by simp at h)
      | 1, hi => cases hi; exact .bool _
      | n + 2, hi => cases hi
    exact ⟨_, S, fun _ => undef, rfl, hb, fun a _ => Iff.rfl, fun a hs => ⟨Nat.lt_of_lt_of_le (hS a hs).1 hb.size, (hS a hs).2⟩, .c hr, fun _ => hr, fun t e k n h => (by cases h), fun x h => (by cases h)⟩
  · have hr : CRel (fun a => S a ∨ ownS v' (s ++ [13, 10]).length a) w' (printR s most) (.tuple #[v', .bool true]) := by
      rw [printR, if_neg (by rw [hbad]; simp)]
      refine .tup _ _ rfl fun i p hi => ?_
      match i, hi with
      | 0, hi => cases hi; exact laid_rel hl
      | 1, hi => cases hi; exact .bool _
      | n + 2, hi => cases hi
    obtain ⟨g, cap, rfl, k2, k3, _⟩ := hl
    refine ⟨_, fun a => S a ∨ ownS (.slice (some ⟨g, 0, none⟩) (s ++ [13, 10]).length cap) (s ++ [13, 10]).length a, fun _ => undef, rfl, hb, fun a ha => ⟨fun hs => hs.elim id fun ho => ?_, .inl⟩, fun a hs => ?_, .c hr, fun _ => hr, fun t e k n h => (by cases h), fun x h => (by cases h)⟩
    · have e : g = a.block := by simpa [Value.ownBlock] using ho.2.1
      omega
    · rcases hs with hs | ho
      · exact ⟨Nat.lt_of_lt_of_le (hS a hs).1 hb.size, (hS a hs).2⟩
      · have e : g = a.block := by simpa [Value.ownBlock] using ho.2.1
        exact ⟨by omega, ho.1⟩
theorem print_to (s : List UInt8) (most : Int) (hs : s.length ≤ 140737488351232) : CallsTo Try.prog 14 [.str s, .int .i64 most] (printR s most) [] := print_any s most (by kernel_rfl) (print_calls s most hs)
theorem refprint_to (s : List UInt8) (most : Int) (hs : s.length ≤ 140737488351232) : CallsTo Try.prog 15 [.str s, .int .i64 most] (printR s most) [] := print_any s most (by kernel_rfl) (refprint_calls s most hs)
end Go.Proofs.Ytemlofepmphgiaa
