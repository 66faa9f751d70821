import Derived.Test.YtddifhkiknnlbaaC
/-! The laws of layer 14 on numbers alone. -/
set_option linter.unusedSimpArgs false
set_option linter.unusedVariables false
namespace Go.Proofs.Ytddifhkiknnlbaa
open Go.RowKit

theorem twice (each used q all a b : Int) (ha : 0 ≤ a) (hb : 0 ≤ b) (ha' : a ≤ 549755813888) (hb' : b ≤ 549755813888) :
    tk each used q all a + tk each (cl (cl used + cl (tk each used q all a))) q (cl (cl all + cl (tk each used q all a))) b = tk each used q all (a + b) ∧
    cl (cl (cl (cl used + cl (tk each used q all a))) + cl (tk each (cl (cl used + cl (tk each used q all a))) q (cl (cl all + cl (tk each used q all a))) b)) = cl (cl used + cl (tk each used q all (a + b))) ∧
    cl (cl (cl (cl all + cl (tk each used q all a))) + cl (tk each (cl (cl used + cl (tk each used q all a))) q (cl (cl all + cl (tk each used q all a))) b)) = cl (cl all + cl (tk each used q all (a + b))) := by
  have h1 := tk_say each used q all a
  have h2 := tk_say each used q all (a + b)
  have ca : cl a = a := cl_in ha (by omega)
  have cb : cl b = b := cl_in hb (by omega)
  have cab : cl (a + b) = a + b := cl_in (by omega) (by omega)
  rw [ca] at h1; rw [cab] at h2
  have r1 := cl_range each; have r2 := cl_range used; have r3 := cl_range q; have r4 := cl_range all
  have f1 := lf_say each used; have f2 := lf_say q all
  generalize hm : tk each used q all a = m at *
  have cm : cl m = m := cl_in (by omega) (by omega)
  rw [cm]
  have x1 := cl_say (cl used + m)
  have y1 := cl_say (cl all + m)
  have x2 : cl (cl (cl used + m)) = cl (cl used + m) := cl_in (cl_range _).1 (cl_range _).2
  have y2 : cl (cl (cl all + m)) = cl (cl all + m) := cl_in (cl_range _).1 (cl_range _).2
  have h3 := tk_say each (cl (cl used + m)) q (cl (cl all + m)) b
  rw [cb] at h3
  have f3 := lf_say each (cl (cl used + m)); have f4 := lf_say q (cl (cl all + m))
  rw [x2] at f3 ⊢; rw [y2] at f4 ⊢
  generalize tk each (cl (cl used + m)) q (cl (cl all + m)) b = n at *
  have cn : cl n = n := cl_in (by omega) (by omega)
  rw [cn]
  generalize tk each used q all (a + b) = p at *
  have cp : cl p = p := cl_in (by omega) (by omega)
  rw [cp]
  generalize lf each used = l1 at *
  generalize lf q all = l2 at *
  generalize lf each (cl (cl used + m)) = l3 at *
  generalize lf q (cl (cl all + m)) = l4 at *
  clear ca cb cab cm cn cp x2 y2 hm
  have e3 : l3 = l1 - m := by clear h2 h3 f2 f4 y1; omega
  have e4 : l4 = l2 - m := by clear h2 h3 f1 f3 x1; omega
  have e : m + n = p := by clear f1 f2 f3 f4 x1 y1 r1 r2 r3 r4; omega
  have bu : cl used + p ≤ 1099511627776 := by clear h3 f2 f3 f4 y1 e3 e4; omega
  have ba : cl all + p ≤ 1099511627776 := by clear h3 f1 f3 f4 x1 e3 e4; omega
  have n0 := h3.1; have m0 := h1.1; have p0 := h2.1
  clear h1 h2 h3 f1 f2 f3 f4 e3 e4
  have x3 := cl_say (cl (cl used + m) + n); have x4 := cl_say (cl used + p)
  have y3 := cl_say (cl (cl all + m) + n); have y4 := cl_say (cl all + p)
  refine ⟨e, ?_, ?_⟩ <;> omega

theorem QuotaTwice_walk (each used q all a b : Int) (w : World) (_ : (Lit.int .i64 each).wf = true) (_ : (Lit.int .i64 used).wf = true) (_ : (Lit.int .i64 q).wf = true) (_ : (Lit.int .i64 all).wf = true) (_ : (Lit.int .i64 a).wf = true) (_ : (Lit.int .i64 b).wf = true) :
    Calls Try.prog 4 #[.int .i64 each, .int .i64 used, .int .i64 q, .int .i64 all, .int .i64 a, .int .i64 b] w fun e w' => e = .returned (.bool true) ∧ Below w.heap.size w w' := by
  by_cases hg : a < 0 ∨ b < 0 ∨ a > 549755813888 ∨ b > 549755813888
  · rcases hg with h | h | h | h
    all_goals
      go_enter Try.func4, Try.ntmps4
      go_wp2_with fail
      refine (awake_calls _).mono ?_
      rintro e w1 ⟨rfl, hb1⟩
      go_wp2_with fail
    all_goals (go_ret; exact ⟨rfl, hb1⟩)
  · have ha : 0 ≤ a := by omega
    have hb : 0 ≤ b := by omega
    have ha' : a ≤ 549755813888 := by omega
    have hb' : b ≤ 549755813888 := by omega
    have HT := Lib.hid (twice each used q all a b ha hb ha' hb')
    have h1 := tk_say each used q all a
    have h2 := tk_say each (cl (cl used + cl (tk each used q all a))) q (cl (cl all + cl (tk each used q all a))) b
    have h3 := cl_range a; have h4 := cl_range b
    have i1 : 0 ≤ tk each used q all a := h1.1
    have i2 : tk each used q all a ≤ 1099511627776 := by omega
    have j1 : 0 ≤ tk each (cl (cl used + cl (tk each used q all a))) q (cl (cl all + cl (tk each used q all a))) b := h2.1
    have j2 : tk each (cl (cl used + cl (tk each used q all a))) q (cl (cl all + cl (tk each used q all a))) b ≤ 1099511627776 := by omega
    clear h1 h2 h3 h4 hg
    go_enter Try.func4, Try.ntmps4
    go_wp2_with fail
    refine (awake_calls _).mono ?_
    rintro e w1 ⟨rfl, hb1⟩
    go_wp2_with fail
    refine (take_calls _ _ _ _ _ _).mono ?_
    rintro e w2 ⟨rfl, hb2⟩
    go_wp2_with fail
    refine (take_calls _ _ _ _ _ _).mono ?_
    rintro e w3 ⟨rfl, hb3⟩
    go_wp2_with fail
    refine (take_calls _ _ _ _ _ _).mono ?_
    rintro e w4 ⟨rfl, hb4⟩
    have t1 : (tk each used q all a + tk each (cl (cl used + cl (tk each used q all a))) q (cl (cl all + cl (tk each used q all a))) b == tk each used q all (a + b)) = true := beq_iff_eq.2 HT.out.1
    have t2 : (cl (cl (cl (cl used + cl (tk each used q all a))) + cl (tk each (cl (cl used + cl (tk each used q all a))) q (cl (cl all + cl (tk each used q all a))) b)) == cl (cl used + cl (tk each used q all (a + b)))) = true := beq_iff_eq.2 HT.out.2.1
    have t3 : (cl (cl (cl (cl all + cl (tk each used q all a))) + cl (tk each (cl (cl used + cl (tk each used q all a))) q (cl (cl all + cl (tk each used q all a))) b)) == cl (cl all + cl (tk each used q all (a + b)))) = true := beq_iff_eq.2 HT.out.2.2
    go_wp2_with fail
    go_ret
    exact ⟨rfl, ext_trans (ext_trans (ext_trans hb1 hb2) hb3) hb4⟩

theorem QuotaNone_walk (each q all n : Int) (w : World) (_ : (Lit.int .i64 each).wf = true) (_ : (Lit.int .i64 q).wf = true) (_ : (Lit.int .i64 all).wf = true) (_ : (Lit.int .i64 n).wf = true) :
    Calls Try.prog 6 #[.int .i64 each, .int .i64 q, .int .i64 all, .int .i64 n] w fun e w' => e = .returned (.bool true) ∧ Below w.heap.size w w' := by
  by_cases hg : each < 0 ∨ each > 1099511627776 ∨ q < 0 ∨ q > 1099511627776 ∨ all < 0 ∨ all > q ∨ n < 0 ∨ n > 1099511627776
  · have g : Hid (each < 0 ∨ each > 1099511627776 ∨ q < 0 ∨ q > 1099511627776 ∨ all < 0 ∨ all > q ∨ n < 0 ∨ n > 1099511627776) := hg
    clear hg
    go_enter Try.func6, Try.ntmps6
    go_wp2_with fail
    refine (awake_calls _).mono ?_
    rintro e w1 ⟨rfl, hb1⟩
    go_wp2_with (go_at_call 9999; skip)
    all_goals first | (exfalso; have := g.out; omega) | (go_ret; exact ⟨rfl, hb1⟩)
  · have z0 : cl 0 = 0 := cl_in (by omega) (by omega)
    have c1 : cl each = each := cl_in (by omega) (by omega)
    have c2 : cl q = q := cl_in (by omega) (by omega)
    have c3 : cl all = all := cl_in (by omega) (by omega)
    have c4 : cl n = n := cl_in (by omega) (by omega)
    have h1 := tk_say each each q all n
    have h2 := tk_say q all each each n
    have f1 := lf_say each each; have f2 := lf_say q all
    have k1 : tk each each q all n = 0 := by omega
    have k2 : tk q all each each n = 0 := by omega
    have T1 := fun w => take_calls each each q all n w
    have T2 := fun w => take_calls q all each each n w
    simp only [k1, k2, z0, c1, c2, c3, c4, Int.add_zero] at T1 T2
    have H1 := Lib.hid T1; have H2 := Lib.hid T2
    have b1 : ¬ each < 0 := by omega
    have b2 : ¬ each > 1099511627776 := by omega
    have b3 : ¬ q < 0 := by omega
    have b4 : ¬ q > 1099511627776 := by omega
    have b5 : ¬ all < 0 := by omega
    have b6 : ¬ all > q := by omega
    have b7 : ¬ n < 0 := by omega
    have b8 : ¬ n > 1099511627776 := by omega
    clear T1 T2 z0 c1 c2 c3 c4 h1 h2 f1 f2 k1 k2 hg
    go_enter Try.func6, Try.ntmps6
    go_wp2_with fail
    refine (awake_calls _).mono ?_
    rintro e w1 ⟨rfl, hb1⟩
    go_wp2_with fail
    refine (H1.out _).mono ?_
    rintro e w2 ⟨rfl, hb2⟩
    go_wp2_with fail
    refine (H2.out _).mono ?_
    rintro e w3 ⟨rfl, hb3⟩
    go_wp2_with fail
    go_ret
    exact ⟨rfl, ext_trans (ext_trans hb1 hb2) hb3⟩
end Go.Proofs.Ytddifhkiknnlbaa
