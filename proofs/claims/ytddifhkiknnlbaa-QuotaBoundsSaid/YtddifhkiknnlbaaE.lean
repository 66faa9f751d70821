import Derived.Test.YtddifhkiknnlbaaC
/-! The law QuotaBounds. -/
set_option linter.unusedSimpArgs false
set_option linter.unusedVariables false
namespace Go.Proofs.Ytddifhkiknnlbaa
open Go.RowKit

theorem mayB_yes {n : Int} (h : 0 ≤ n) (h' : n ≤ 1099511627776) : mayB n = true := by unfold mayB; simp; omega
theorem mayB_no {n : Int} (h : n < 0 ∨ n > 1099511627776) : mayB n = false := by unfold mayB; simp; omega
set_option maxHeartbeats 8000000 in
theorem QuotaBounds_walk (each used q all n : Int) (w : World) (_ : (Lit.int .i64 each).wf = true) (_ : (Lit.int .i64 used).wf = true) (_ : (Lit.int .i64 q).wf = true) (_ : (Lit.int .i64 all).wf = true) (_ : (Lit.int .i64 n).wf = true) :
    Calls Try.prog 7 #[.int .i64 each, .int .i64 used, .int .i64 q, .int .i64 all, .int .i64 n] w fun e w' => e = .returned (.bool true) ∧ Below w.heap.size w w' := by
  have T := fun w => take_calls each used q all n w
  have h1 := tk_say each used q all n
  have r0 := cl_range n; have r1 := cl_range each; have r2 := cl_range used; have r3 := cl_range q; have r4 := cl_range all
  have f1 := lf_say each used; have f2 := lf_say q all
  have cK : cl (tk each used q all n) = tk each used q all n := cl_in (by omega) (by omega)
  rw [cK] at T
  have x1 := cl_say (cl used + tk each used q all n)
  have y1 := cl_say (cl all + tk each used q all n)
  have x2 := cl_range (cl used + tk each used q all n)
  have y2 := cl_range (cl all + tk each used q all n)
  generalize tk each used q all n = K at *
  generalize cl (cl used + K) = X at *
  generalize cl (cl all + K) = Y at *
  have m1 : mayB K = true := mayB_yes (by omega) (by omega)
  have m2 : mayB X = true := mayB_yes (by omega) (by omega)
  have m3 : mayB Y = true := mayB_yes (by omega) (by omega)
  have HT := Lib.hid T
  clear T cK
  have p0 : ¬ K < 0 := by omega
  by_cases hg : (n < 0 ∨ n > 1099511627776) ∨ (each < 0 ∨ each > 1099511627776) ∨ (used < 0 ∨ used > 1099511627776) ∨ (q < 0 ∨ q > 1099511627776) ∨ (all < 0 ∨ all > 1099511627776)
  · clear h1 r0 r1 r2 r3 r4 f1 f2 x1 y1 x2 y2
    by_cases g1 : n < 0 ∨ n > 1099511627776
    · have n1 := mayB_no g1
      clear hg g1
      go_enter Try.func7, Try.ntmps7
      go_wp2_with (first | (go_at_call 8; refine (awake_calls _).mono ?_; rintro e w1 ⟨rfl, hb1⟩) | (go_at_call 9; refine (HT.out _).mono ?_; rintro e w2 ⟨rfl, hb2⟩) | (go_at_call 13; refine (may_calls _ _).mono ?_; rintro e w' ⟨rfl, rfl⟩))
      go_ret
      exact ⟨rfl, ext_trans hb1 hb2⟩
    · have n1 := mayB_yes (n := n) (by omega) (by omega)
      by_cases g2 : each < 0 ∨ each > 1099511627776
      · have n2 := mayB_no g2
        clear hg g1 g2
        go_enter Try.func7, Try.ntmps7
        go_wp2_with (first | (go_at_call 8; refine (awake_calls _).mono ?_; rintro e w1 ⟨rfl, hb1⟩) | (go_at_call 9; refine (HT.out _).mono ?_; rintro e w2 ⟨rfl, hb2⟩) | (go_at_call 13; refine (may_calls _ _).mono ?_; rintro e w' ⟨rfl, rfl⟩))
        go_ret
        exact ⟨rfl, ext_trans hb1 hb2⟩
      · have n2 := mayB_yes (n := each) (by omega) (by omega)
        by_cases g3 : used < 0 ∨ used > 1099511627776
        · have n3 := mayB_no g3
          clear hg g1 g2 g3
          go_enter Try.func7, Try.ntmps7
          go_wp2_with (first | (go_at_call 8; refine (awake_calls _).mono ?_; rintro e w1 ⟨rfl, hb1⟩) | (go_at_call 9; refine (HT.out _).mono ?_; rintro e w2 ⟨rfl, hb2⟩) | (go_at_call 13; refine (may_calls _ _).mono ?_; rintro e w' ⟨rfl, rfl⟩))
          go_ret
          exact ⟨rfl, ext_trans hb1 hb2⟩
        · have n3 := mayB_yes (n := used) (by omega) (by omega)
          by_cases g4 : q < 0 ∨ q > 1099511627776
          · have n4 := mayB_no g4
            clear hg g1 g2 g3 g4
            go_enter Try.func7, Try.ntmps7
            go_wp2_with (first | (go_at_call 8; refine (awake_calls _).mono ?_; rintro e w1 ⟨rfl, hb1⟩) | (go_at_call 9; refine (HT.out _).mono ?_; rintro e w2 ⟨rfl, hb2⟩) | (go_at_call 13; refine (may_calls _ _).mono ?_; rintro e w' ⟨rfl, rfl⟩))
            go_ret
            exact ⟨rfl, ext_trans hb1 hb2⟩
          · have n4 := mayB_yes (n := q) (by omega) (by omega)
            have n5 := mayB_no (n := all) (by omega)
            clear hg g1 g2 g3 g4
            go_enter Try.func7, Try.ntmps7
            go_wp2_with (first | (go_at_call 8; refine (awake_calls _).mono ?_; rintro e w1 ⟨rfl, hb1⟩) | (go_at_call 9; refine (HT.out _).mono ?_; rintro e w2 ⟨rfl, hb2⟩) | (go_at_call 13; refine (may_calls _ _).mono ?_; rintro e w' ⟨rfl, rfl⟩))
            go_ret
            exact ⟨rfl, ext_trans hb1 hb2⟩
  · have n1 := mayB_yes (n := n) (by omega) (by omega)
    have n2 := mayB_yes (n := each) (by omega) (by omega)
    have n3 := mayB_yes (n := used) (by omega) (by omega)
    have n4 := mayB_yes (n := q) (by omega) (by omega)
    have n5 := mayB_yes (n := all) (by omega) (by omega)
    have c0 : cl n = n := cl_in (by omega) (by omega)
    have c1 : cl each = each := cl_in (by omega) (by omega)
    have c2 : cl used = used := cl_in (by omega) (by omega)
    have c3 : cl q = q := cl_in (by omega) (by omega)
    have c4 : cl all = all := cl_in (by omega) (by omega)
    simp only [c0, c1, c2, c3, c4] at h1 f1 f2 x1 y1 HT
    have k1 : K ≤ n := by omega
    have k2 : used ≤ each → X ≤ each := by omega
    have k3 : all ≤ q → Y ≤ q := by omega
    have k4 : (each < used ∨ q < all) → K = 0 := by omega
    have k5 : used ≤ each → all ≤ q → X = used + K ∧ Y = all + K ∧ (K < n → X = each ∨ Y = q) := by omega
    have kk : 0 ≤ K ∧ K ≤ 1099511627776 ∧ 0 ≤ used ∧ used ≤ 1099511627776 ∧ 0 ≤ all ∧ all ≤ 1099511627776 := by omega
    obtain ⟨kk1, kk2, kk3, kk4, kk5, kk6⟩ := kk
    clear c0 c1 c2 c3 c4 h1 r0 r1 r2 r3 r4 f1 f2 x1 y1 x2 y2 hg
    by_cases g1 : used ≤ each
    · by_cases g2 : all ≤ q
      · obtain ⟨e1, e2, e3⟩ := k5 g1 g2
        have l1 : X ≤ each := k2 g1
        have l2 : Y ≤ q := k3 g2
        have t1 : (X == used + K) = true := beq_iff_eq.2 e1
        have t2 : (Y == all + K) = true := beq_iff_eq.2 e2
        have E3 := Lib.hid e3
        clear k2 k3 k4 k5 e1 e2 e3
        by_cases g3 : K < n
        · rcases E3.out g3 with e4 | e4
          · have t4 : (X == each) = true := beq_iff_eq.2 e4
            clear e4
            go_enter Try.func7, Try.ntmps7
            go_wp2_with (first | (go_at_call 8; refine (awake_calls _).mono ?_; rintro e w1 ⟨rfl, hb1⟩) | (go_at_call 9; refine (HT.out _).mono ?_; rintro e w2 ⟨rfl, hb2⟩) | (go_at_call 13; refine (may_calls _ _).mono ?_; rintro e w' ⟨rfl, rfl⟩))
            go_ret
            exact ⟨rfl, ext_trans hb1 hb2⟩
          · have t4 : (Y == q) = true := beq_iff_eq.2 e4
            clear e4
            by_cases e5 : X = each
            · have t5 : (X == each) = true := beq_iff_eq.2 e5
              clear e5
              go_enter Try.func7, Try.ntmps7
              go_wp2_with (first | (go_at_call 8; refine (awake_calls _).mono ?_; rintro e w1 ⟨rfl, hb1⟩) | (go_at_call 9; refine (HT.out _).mono ?_; rintro e w2 ⟨rfl, hb2⟩) | (go_at_call 13; refine (may_calls _ _).mono ?_; rintro e w' ⟨rfl, rfl⟩))
              go_ret
              exact ⟨rfl, ext_trans hb1 hb2⟩
            · have t5 : (X == each) = false := beq_eq_false_iff_ne.2 e5
              clear e5
              go_enter Try.func7, Try.ntmps7
              go_wp2_with (first | (go_at_call 8; refine (awake_calls _).mono ?_; rintro e w1 ⟨rfl, hb1⟩) | (go_at_call 9; refine (HT.out _).mono ?_; rintro e w2 ⟨rfl, hb2⟩) | (go_at_call 13; refine (may_calls _ _).mono ?_; rintro e w' ⟨rfl, rfl⟩))
              go_ret
              exact ⟨rfl, ext_trans hb1 hb2⟩
        · go_enter Try.func7, Try.ntmps7
          go_wp2_with (first | (go_at_call 8; refine (awake_calls _).mono ?_; rintro e w1 ⟨rfl, hb1⟩) | (go_at_call 9; refine (HT.out _).mono ?_; rintro e w2 ⟨rfl, hb2⟩) | (go_at_call 13; refine (may_calls _ _).mono ?_; rintro e w' ⟨rfl, rfl⟩))
          go_ret
          exact ⟨rfl, ext_trans hb1 hb2⟩
      · have e0 : K = 0 := k4 (by omega)
        subst e0
        have l1 : X ≤ each := k2 g1
        clear k2 k3 k4 k5
        go_enter Try.func7, Try.ntmps7
        go_wp2_with (first | (go_at_call 8; refine (awake_calls _).mono ?_; rintro e w1 ⟨rfl, hb1⟩) | (go_at_call 9; refine (HT.out _).mono ?_; rintro e w2 ⟨rfl, hb2⟩) | (go_at_call 13; refine (may_calls _ _).mono ?_; rintro e w' ⟨rfl, rfl⟩))
        go_ret
        exact ⟨rfl, ext_trans hb1 hb2⟩
    · have e0 : K = 0 := k4 (by omega)
      subst e0
      by_cases g2 : all ≤ q
      · have l2 : Y ≤ q := k3 g2
        clear k2 k3 k4 k5
        go_enter Try.func7, Try.ntmps7
        go_wp2_with (first | (go_at_call 8; refine (awake_calls _).mono ?_; rintro e w1 ⟨rfl, hb1⟩) | (go_at_call 9; refine (HT.out _).mono ?_; rintro e w2 ⟨rfl, hb2⟩) | (go_at_call 13; refine (may_calls _ _).mono ?_; rintro e w' ⟨rfl, rfl⟩))
        go_ret
        exact ⟨rfl, ext_trans hb1 hb2⟩
      · clear k2 k3 k4 k5
        go_enter Try.func7, Try.ntmps7
        go_wp2_with (first | (go_at_call 8; refine (awake_calls _).mono ?_; rintro e w1 ⟨rfl, hb1⟩) | (go_at_call 9; refine (HT.out _).mono ?_; rintro e w2 ⟨rfl, hb2⟩) | (go_at_call 13; refine (may_calls _ _).mono ?_; rintro e w' ⟨rfl, rfl⟩))
        go_ret
        exact ⟨rfl, ext_trans hb1 hb2⟩
end Go.Proofs.Ytddifhkiknnlbaa
