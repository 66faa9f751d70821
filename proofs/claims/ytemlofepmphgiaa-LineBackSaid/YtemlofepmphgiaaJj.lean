import Derived.Test.YtemlofepmphgiaaJi
/-! Print. -/
set_option linter.unusedSimpArgs false
set_option linter.unusedVariables false
set_option maxHeartbeats 4000000
set_option maxRecDepth 100000
namespace Go.Proofs.Ytemlofepmphgiaa
open Go.RowKit

theorem any_calls (s : List UInt8) (hs : s.length ≤ 9223372036854775807) (w : World) : Calls Try.prog 21 #[.string ⟨s.toArray⟩, .string ⟨#[13, 10]⟩] w fun e w' => e = .returned (.bool (hasNl s)) ∧ Below w.heap.size w w' := by
  refine ((containsAny_to s hs).2 w (fun _ => False) [.string ⟨s.toArray⟩, .string ⟨#[13, 10]⟩] (fun a h => h.elim) rfl (fun i p hi => ?_)).mono fun e W' ⟨v, S', μ, he, hb, _, _, _, hc, _⟩ => ⟨by have := plainV_eq (p := .bool (hasNl s)) rfl (hc rfl); rw [he, this], hb⟩
  match i, hi with
  | 0, hi => cases hi; exact .str _
  | 1, hi => cases hi; exact .str [13, 10]
  | n + 2, hi => cases hi
def badP (s : List UInt8) (most : Int) : Bool := decide ((s.length : Int) > most) || hasNl s
theorem bytes_below (w : World) (s : List UInt8) : Below w.heap.size w (Lib.bytesWorld w 5 ⟨s.toArray⟩) := by
  refine ⟨?_, ?_, ?_, by rw [Lib.bytesWorld_size]; omega, fun k hk => Lib.bytesWorld_at_old w _ _ k hk⟩ <;> simp [Lib.bytesWorld, World.freeze, World.alloc, World.drew, -World.alloc_eq, -World.drew_eq]
theorem crlf_cells (W : World) : ∀ (j : Nat) u, (bVs [13, 10])[j]? = some u → (W.alloc (.cells #[.int .u8 13, .int .u8 10] 5)).cell? ((⟨W.heap.size, 0, none⟩ : Addr).add j) = some u := fun j u hj => by
  obtain ⟨ad, h1, h2⟩ := row_newM W [.int .u8 13, .int .u8 10] 5 (0, 0) j u hj
  cases h1
  exact h2
theorem print_calls (s : List UInt8) (most : Int) (hs : s.length ≤ 140737488351232) (w : World) : Calls Try.prog 14 #[.string ⟨s.toArray⟩, .int .i64 most] w fun e w' => Below w.heap.size w w' ∧
    ((badP s most = true ∧ e = .returned (.tuple #[.slice none 0 0, .bool false])) ∨ (badP s most = false ∧ ∃ v', e = .returned (.tuple #[v', .bool true]) ∧ Laid w' w.heap.size v' (s ++ [13, 10]))) := by
  by_cases hm : most < (s.length : Int)
  · have hbad : badP s most = true := by unfold badP; rw [decide_eq_true hm, Bool.true_or]
    have HB := Lib.hid hbad
    have hsz : (⟨s.toArray⟩ : ByteArray).size = s.length := size_byte s
    clear hbad
    go_enter Try.func14, Try.ntmps14
    go_wp2
    all_goals go_ret2
    all_goals exact ⟨Below.refl _ _, .inl ⟨HB.out, rfl⟩⟩
  · have hsz : (⟨s.toArray⟩ : ByteArray).size = s.length := size_byte s
    have d1 : decide (most < (s.length : Int)) = false := decide_eq_false hm
    cases hb : hasNl s with
    | true =>
      have hbad : badP s most = true := by unfold badP; rw [hb, Bool.or_true]
      have HB := Lib.hid hbad
      have HN := Lib.hid hb
      clear hbad hb
      go_enter Try.func14, Try.ntmps14
      go_wp2_with (go_at_call 21; refine (any_calls _ (by omega) _).mono ?_; rintro e w1 ⟨rfl, hb1⟩; rw [HN.out])
      all_goals go_ret2
      all_goals exact ⟨by assumption, .inl ⟨HB.out, rfl⟩⟩
    | false =>
      have hbad : badP s most = false := by unfold badP; rw [hb, Bool.or_false]; exact d1
      have HB := Lib.hid hbad
      have HN := Lib.hid hb
      clear hbad hb
      go_enter Try.func14, Try.ntmps14
      go_wp2_with (go_at_call 21; refine (any_calls _ (by omega) _).mono ?_; rintro e w1 ⟨rfl, hb1⟩; rw [HN.out])
      rw [Lib.run_convert_string_bytes w1 9 22 5 ⟨s.toArray⟩ (u := .string) Try.underlying9 Try.underlying22 Try.underlying5, hsz]
      simp only [Result.andThen]
      rw [Oper.upon_value]
      have hL := conv_laid w1 s (by unfold maxLen; omega)
      have hB := bytes_below w1 s
      have hN2 : grownCap w1 s.length 0 5 = grownCap w1 s.length 0 5 := rfl
      generalize grownCap w1 s.length 0 5 = cap at hL ⊢
      generalize Lib.bytesWorld w1 5 ⟨s.toArray⟩ = W2 at hL hB ⊢
      have HL := Lib.hid hL
      have HW := Lib.hid hB
      have HV := Lib.hid hb1
      clear hL hB hb1 hN2
      go_wp2_with (at_builtin; obtain ⟨v', w2, hr, hl, hb⟩ := app_laid (m := [13, 10]) (HL.out.ext (below_alloc0 W2 (.cells #[.int .u8 13, .int .u8 10] 5))) ⟨W2.heap.size, 0, none⟩ 2 (crlf_cells W2) (by simp; omega) (Nat.le_trans HW.out.size (below_alloc0 W2 _).size); refine Lib.wpList_append_run _ rfl _ _ _ _ rfl _ _ rfl rfl _ _ hr ?_)
      go_ret2
      refine ⟨?_, .inr ⟨HB.out, v', rfl, ?_⟩⟩
      · exact ext_trans HV.out (HW.out.trans (((below_alloc0 W2 _).mono HW.out.size).trans hb))
      · obtain ⟨g, cap, h1, h2, h3⟩ := hl
        exact ⟨g, cap, h1, Nat.le_trans HV.out.size h2, h3⟩
end Go.Proofs.Ytemlofepmphgiaa
