import Derived.Test.YtddifhkiknnlbaaB
import Derived.Lib.SlBytesConst
import Derived.Test.YtddifhkiknnlbaaReg
/-! The chapter's example. -/
set_option linter.unusedSimpArgs false
set_option linter.unusedVariables false
namespace Go.Proofs.Ytddifhkiknnlbaa
open Go.RowKit

theorem awake_calls (w : World) : Calls Try.prog 8 #[] w fun e w' => e = .returned (.bool true) ∧ Below w.heap.size w w' := by
  have e1 : tk 10 7 100 0 5 = 3 := by decide
  have e2 : cl (cl 7 + cl 3) = 10 := by decide
  have e3 : cl (cl 0 + cl 3) = 3 := by decide
  have e4 : cl 5 = 5 := by decide
  have HT := (take_calls 10 7 100 0 5 w)
  rw [e1, e2, e3, e4] at HT
  have H := Lib.hid HT
  clear HT e1 e2 e3 e4
  have kc := fun (w : World) (C : Array Value) (n c : Nat) => Lib.run_convert_bytes_const (P := Try.prog) w 22 5 C n c Try.underlying22 Try.underlying5
  go_enter Try.func8, Try.ntmps8
  go_wp2_with fail
  refine H.out.mono ?_
  rintro e w1 ⟨rfl, hb1⟩
  go_wp2_with fail
  refine (cut_calls (some ⟨w1.heap.size, 0, none⟩) 3 [97, 98, 99] 2 _ (fun h => by cases h) (by decide) (row_newM _ [_, _, _] _ _) (by decide)).mono ?_
  rintro e w2 ⟨v', rfl, ho, hb2⟩
  obtain ⟨A, cap, rfl, -, -, hR, -⟩ := Row.of_own ho
  have hconv : (convert 22 9 (.slice A 2 cap)).run Try.prog w2 = .ok (.string ⟨#[97, 98]⟩) w2 := run_bytes_string w2 _ _ 5 A cap [97, 98] Try.underlying22 Try.underlying5 Try.underlying9 hR
  clear hR ho
  rw [show cutN 2 ([97, 98, 99] : List UInt8).length = 2 by decide]
  go_wp2
  go_ret
  exact ⟨rfl, ext_trans (ext_trans hb1 (below_alloc0 _ _)) hb2⟩
theorem QuotaTakes_walk (each used q all n : Int) (A : Option Addr) (c : Nat) (l : List UInt8) (w : World) (_ : (Lit.int .i64 each).wf = true) (_ : (Lit.int .i64 used).wf = true) (_ : (Lit.int .i64 q).wf = true) (_ : (Lit.int .i64 all).wf = true) (_ : (Lit.int .i64 n).wf = true)
    (hc : l.length ≤ c) (hm : c ≤ maxLen) (hA : A = none → l.length = 0 ∧ c = 0) (hr : Row w A (bVs l)) :
    Calls Try.prog 3 #[.int .i64 each, .int .i64 used, .int .i64 q, .int .i64 all, .int .i64 n, .slice A l.length c] w fun e w' => e = .returned (.bool true) ∧ Below w.heap.size w w' := by
  unfold maxLen at hm
  have HR := Lib.hid hr
  clear hr
  have HA := Lib.hid hA; clear hA
  by_cases hlen : l.length ≤ 300
  · have hb : l.length ≤ 140737488355328 := by omega
    go_enter Try.func3, Try.ntmps3
    go_wp2_with fail
    refine (awake_calls _).mono ?_
    rintro e w1 ⟨rfl, hb1⟩
    go_wp2_with fail
    refine (take_calls _ _ _ _ _ _).mono ?_
    rintro e w2 ⟨rfl, hb2⟩
    go_wp2_with fail
    refine (rtake_calls _ _ _ _ _ _).mono ?_
    rintro e w' ⟨rfl, rfl⟩
    go_wp2_with fail
    have hk : (l.take (cutN n l.length)).length = cutN n l.length := by have := cutN_le n l.length; rw [List.length_take]; omega
    have HK := Lib.hid hk
    clear hk
    apply fun (r6c0 r6c1 r6c2 r6c3 r6c4 r6c5 r6c6 r6c7 r6c8 r6c9 r6c10 r6c11 r6c12 r6c13 r6c14 r6c15 r6c16 r6c17 r6c18 r6c19 r6c20 r6c22 r6c23 r6c24 r6c26 r6c27 r6c28 r6c29 : Value) => wp_region_go [eqF r6c0, eqF r6c1, eqF r6c2, eqF r6c3, eqF r6c4, eqF r6c5, eqF r6c6, eqF r6c7, eqF r6c8, eqF r6c9, eqF r6c10, eqF r6c11, eqF r6c12, eqF r6c13, eqF r6c14, eqF r6c15, eqF r6c16, eqF r6c17, eqF r6c18, eqF r6c19, eqF r6c20, ownF w.heap.size 5 1 (cutN n l.length) (bVs (l.take (cutN n l.length))), eqF r6c22, eqF r6c23, eqF r6c24, ownF w.heap.size 5 1 (cutN n l.length) (bVs (l.take (cutN n l.length))), eqF r6c26, eqF r6c27, eqF r6c28, eqF r6c29] 30
    case hpre => exact ⟨by kernel_rfl, rfl, rfl, by kernel_rfl⟩
    case hstep =>
      refine (allLt (allLt (allLt (allLt (allLt (allLt (allLt (allLt (allLt (allLt (allLt (allLt (allLt (allLt (allLt (allLt (allLt (allLt (allLt (allLt (allLt (allLt (allLt (allLt (allLt (allLt (allLt (allLt (allLt (allLt allLt0 ?r6_s0) ?r6_s1) ?r6_s2) ?r6_s3) ?r6_s4) ?r6_s5) ?r6_s6) ?r6_s7) ?r6_s8) ?r6_s9) ?r6_s10) ?r6_s11) ?r6_s12) ?r6_s13) ?r6_s14) ?r6_s15) ?r6_s16) ?r6_s17) ?r6_s18) ?r6_s19) ?r6_s20) ?r6_s21) ?r6_s22) ?r6_s23) ?r6_s24) ?r6_s25) ?r6_s26) ?r6_s27) ?r6_s28) ?r6_s29)
      case r6_s0 =>
        intro xo ho xa xw xb xd xr xK xk
        simp only [List.getElem?_toArray, List.getElem?_cons_succ, List.getElem?_cons_zero, Option.some.injEq] at ho; subst ho
        have e14 := xr.2 14 (by kernel_rfl); simp only [List.getElem?_toArray, List.getElem?_cons_succ, List.getElem?_cons_zero] at e14
        clear xr xd
        go_simp
        exact xk _ _ (Below.refl _ _) (eqF_at _ _)
      case r6_s1 =>
        intro xo ho xa xw xb xd xr xK xk
        simp only [List.getElem?_toArray, List.getElem?_cons_succ, List.getElem?_cons_zero, Option.some.injEq] at ho; subst ho
        have e18 := xr.2 18 (by kernel_rfl); simp only [List.getElem?_toArray, List.getElem?_cons_succ, List.getElem?_cons_zero] at e18
        clear xr xd
        go_simp
        exact xk _ _ (Below.refl _ _) (eqF_at _ _)
      case r6_s2 =>
        intro xo ho xa xw xb xd xr xK xk
        simp only [List.getElem?_toArray, List.getElem?_cons_succ, List.getElem?_cons_zero, Option.some.injEq] at ho; subst ho
        obtain ⟨v0, e53, f0⟩ := xr.1 0 _ rfl (by kernel_rfl) 53 rfl
        cases f0
        obtain ⟨v1, e54, f1⟩ := xr.1 1 _ rfl (by kernel_rfl) 54 rfl
        cases f1
        clear xr xd
        go_simp
        exact xk _ _ (Below.refl _ _) (eqF_at _ _)
      case r6_s3 =>
        intro xo ho xa xw xb xd xr xK xk
        simp only [List.getElem?_toArray, List.getElem?_cons_succ, List.getElem?_cons_zero, Option.some.injEq] at ho; subst ho
        obtain ⟨v2, e55, f2⟩ := xr.1 2 _ rfl (by kernel_rfl) 55 rfl
        cases f2
        clear xr xd
        go_simp
        exact xk _ _ (Below.refl _ _) (eqF_at _ _)
      case r6_s4 =>
        intro xo ho xa xw xb xd xr xK xk
        simp only [List.getElem?_toArray, List.getElem?_cons_succ, List.getElem?_cons_zero, Option.some.injEq] at ho; subst ho
        have e15 := xr.2 15 (by kernel_rfl); simp only [List.getElem?_toArray, List.getElem?_cons_succ, List.getElem?_cons_zero] at e15
        obtain ⟨v3, e56, f3⟩ := xr.1 3 _ rfl (by kernel_rfl) 56 rfl
        cases f3
        clear xr xd
        go_simp
        exact xk _ _ (Below.refl _ _) (eqF_at _ _)
      case r6_s5 =>
        intro xo ho xa xw xb xd xr xK xk
        simp only [List.getElem?_toArray, List.getElem?_cons_succ, List.getElem?_cons_zero, Option.some.injEq] at ho; subst ho
        have e19 := xr.2 19 (by kernel_rfl); simp only [List.getElem?_toArray, List.getElem?_cons_succ, List.getElem?_cons_zero] at e19
        obtain ⟨v3, e56, f3⟩ := xr.1 3 _ rfl (by kernel_rfl) 56 rfl
        cases f3
        clear xr xd
        go_simp
        exact xk _ _ (Below.refl _ _) (eqF_at _ _)
      case r6_s6 =>
        intro xo ho xa xw xb xd xr xK xk
        simp only [List.getElem?_toArray, List.getElem?_cons_succ, List.getElem?_cons_zero, Option.some.injEq] at ho; subst ho
        obtain ⟨v4, e57, f4⟩ := xr.1 4 _ rfl (by kernel_rfl) 57 rfl
        cases f4
        obtain ⟨v5, e58, f5⟩ := xr.1 5 _ rfl (by kernel_rfl) 58 rfl
        cases f5
        obtain ⟨v3, e56, f3⟩ := xr.1 3 _ rfl (by kernel_rfl) 56 rfl
        cases f3
        clear xr xd
        go_simp
        exact xk _ _ (Below.refl _ _) (eqF_at _ _)
      case r6_s7 =>
        intro xo ho xa xw xb xd xr xK xk
        simp only [List.getElem?_toArray, List.getElem?_cons_succ, List.getElem?_cons_zero, Option.some.injEq] at ho; subst ho
        obtain ⟨v3, e56, f3⟩ := xr.1 3 _ rfl (by kernel_rfl) 56 rfl
        cases f3
        obtain ⟨v6, e59, f6⟩ := xr.1 6 _ rfl (by kernel_rfl) 59 rfl
        cases f6
        clear xr xd
        go_simp
        exact xk _ _ (Below.refl _ _) (eqF_at _ _)
      case r6_s8 =>
        intro xo ho xa xw xb xd xr xK xk
        simp only [List.getElem?_toArray, List.getElem?_cons_succ, List.getElem?_cons_zero, Option.some.injEq] at ho; subst ho
        obtain ⟨v7, e60, f7⟩ := xr.1 7 _ rfl (by kernel_rfl) 60 rfl
        cases f7
        clear xr xd
        go_simp
        exact xk _ _ (Below.refl _ _) (eqF_at _ _)
      case r6_s9 =>
        intro xo ho xa xw xb xd xr xK xk
        simp only [List.getElem?_toArray, List.getElem?_cons_succ, List.getElem?_cons_zero, Option.some.injEq] at ho; subst ho
        have e16 := xr.2 16 (by kernel_rfl); simp only [List.getElem?_toArray, List.getElem?_cons_succ, List.getElem?_cons_zero] at e16
        obtain ⟨v8, e61, f8⟩ := xr.1 8 _ rfl (by kernel_rfl) 61 rfl
        cases f8
        clear xr xd
        go_simp
        exact xk _ _ (Below.refl _ _) (eqF_at _ _)
      case r6_s10 =>
        intro xo ho xa xw xb xd xr xK xk
        simp only [List.getElem?_toArray, List.getElem?_cons_succ, List.getElem?_cons_zero, Option.some.injEq] at ho; subst ho
        have e20 := xr.2 20 (by kernel_rfl); simp only [List.getElem?_toArray, List.getElem?_cons_succ, List.getElem?_cons_zero] at e20
        obtain ⟨v8, e61, f8⟩ := xr.1 8 _ rfl (by kernel_rfl) 61 rfl
        cases f8
        clear xr xd
        go_simp
        exact xk _ _ (Below.refl _ _) (eqF_at _ _)
      case r6_s11 =>
        intro xo ho xa xw xb xd xr xK xk
        simp only [List.getElem?_toArray, List.getElem?_cons_succ, List.getElem?_cons_zero, Option.some.injEq] at ho; subst ho
        obtain ⟨v9, e62, f9⟩ := xr.1 9 _ rfl (by kernel_rfl) 62 rfl
        cases f9
        obtain ⟨v10, e63, f10⟩ := xr.1 10 _ rfl (by kernel_rfl) 63 rfl
        cases f10
        obtain ⟨v8, e61, f8⟩ := xr.1 8 _ rfl (by kernel_rfl) 61 rfl
        cases f8
        clear xr xd
        go_simp
        exact xk _ _ (Below.refl _ _) (eqF_at _ _)
      case r6_s12 =>
        intro xo ho xa xw xb xd xr xK xk
        simp only [List.getElem?_toArray, List.getElem?_cons_succ, List.getElem?_cons_zero, Option.some.injEq] at ho; subst ho
        obtain ⟨v8, e61, f8⟩ := xr.1 8 _ rfl (by kernel_rfl) 61 rfl
        cases f8
        obtain ⟨v11, e64, f11⟩ := xr.1 11 _ rfl (by kernel_rfl) 64 rfl
        cases f11
        clear xr xd
        go_simp
        exact xk _ _ (Below.refl _ _) (eqF_at _ _)
      case r6_s13 =>
        intro xo ho xa xw xb xd xr xK xk
        simp only [List.getElem?_toArray, List.getElem?_cons_succ, List.getElem?_cons_zero, Option.some.injEq] at ho; subst ho
        obtain ⟨v12, e65, f12⟩ := xr.1 12 _ rfl (by kernel_rfl) 65 rfl
        cases f12
        clear xr xd
        go_simp
        exact xk _ _ (Below.refl _ _) (eqF_at _ _)
      case r6_s14 =>
        intro xo ho xa xw xb xd xr xK xk
        simp only [List.getElem?_toArray, List.getElem?_cons_succ, List.getElem?_cons_zero, Option.some.injEq] at ho; subst ho
        have e17 := xr.2 17 (by kernel_rfl); simp only [List.getElem?_toArray, List.getElem?_cons_succ, List.getElem?_cons_zero] at e17
        obtain ⟨v13, e66, f13⟩ := xr.1 13 _ rfl (by kernel_rfl) 66 rfl
        cases f13
        clear xr xd
        go_simp
        exact xk _ _ (Below.refl _ _) (eqF_at _ _)
      case r6_s15 =>
        intro xo ho xa xw xb xd xr xK xk
        simp only [List.getElem?_toArray, List.getElem?_cons_succ, List.getElem?_cons_zero, Option.some.injEq] at ho; subst ho
        have e21 := xr.2 21 (by kernel_rfl); simp only [List.getElem?_toArray, List.getElem?_cons_succ, List.getElem?_cons_zero] at e21
        obtain ⟨v13, e66, f13⟩ := xr.1 13 _ rfl (by kernel_rfl) 66 rfl
        cases f13
        clear xr xd
        go_simp
        exact xk _ _ (Below.refl _ _) (eqF_at _ _)
      case r6_s16 =>
        intro xo ho xa xw xb xd xr xK xk
        simp only [List.getElem?_toArray, List.getElem?_cons_succ, List.getElem?_cons_zero, Option.some.injEq] at ho; subst ho
        obtain ⟨v14, e67, f14⟩ := xr.1 14 _ rfl (by kernel_rfl) 67 rfl
        cases f14
        obtain ⟨v15, e68, f15⟩ := xr.1 15 _ rfl (by kernel_rfl) 68 rfl
        cases f15
        obtain ⟨v13, e66, f13⟩ := xr.1 13 _ rfl (by kernel_rfl) 66 rfl
        cases f13
        clear xr xd
        go_simp
        exact xk _ _ (Below.refl _ _) (eqF_at _ _)
      case r6_s17 =>
        intro xo ho xa xw xb xd xr xK xk
        simp only [List.getElem?_toArray, List.getElem?_cons_succ, List.getElem?_cons_zero, Option.some.injEq] at ho; subst ho
        obtain ⟨v13, e66, f13⟩ := xr.1 13 _ rfl (by kernel_rfl) 66 rfl
        cases f13
        obtain ⟨v16, e69, f16⟩ := xr.1 16 _ rfl (by kernel_rfl) 69 rfl
        cases f16
        clear xr xd
        go_simp
        exact xk _ _ (Below.refl _ _) (eqF_at _ _)
      case r6_s18 =>
        intro xo ho xa xw xb xd xr xK xk
        simp only [List.getElem?_toArray, List.getElem?_cons_succ, List.getElem?_cons_zero, Option.some.injEq] at ho; subst ho
        obtain ⟨v17, e70, f17⟩ := xr.1 17 _ rfl (by kernel_rfl) 70 rfl
        cases f17
        clear xr xd
        go_simp
        exact xk _ _ (Below.refl _ _) (eqF_at _ _)
      case r6_s19 =>
        intro xo ho xa xw xb xd xr xK xk
        simp only [List.getElem?_toArray, List.getElem?_cons_succ, List.getElem?_cons_zero, Option.some.injEq] at ho; subst ho
        have e5 := xr.2 5 (by kernel_rfl); simp only [List.getElem?_toArray, List.getElem?_cons_succ, List.getElem?_cons_zero] at e5
        obtain ⟨v18, e71, f18⟩ := xr.1 18 _ rfl (by kernel_rfl) 71 rfl
        cases f18
        clear xr xd
        go_simp
        exact xk _ _ (Below.refl _ _) (eqF_at _ _)
      case r6_s20 =>
        intro xo ho xa xw xb xd xr xK xk
        simp only [List.getElem?_toArray, List.getElem?_cons_succ, List.getElem?_cons_zero, Option.some.injEq] at ho; subst ho
        have e4 := xr.2 4 (by kernel_rfl); simp only [List.getElem?_toArray, List.getElem?_cons_succ, List.getElem?_cons_zero] at e4
        obtain ⟨v18, e71, f18⟩ := xr.1 18 _ rfl (by kernel_rfl) 71 rfl
        cases f18
        clear xr xd
        go_simp
        exact xk _ _ (Below.refl _ _) (eqF_at _ _)
      case r6_s21 =>
        intro xo ho xa xw xb xd xr xK xk
        simp only [List.getElem?_toArray, List.getElem?_cons_succ, List.getElem?_cons_zero, Option.some.injEq] at ho; subst ho
        obtain ⟨v19, e72, f19⟩ := xr.1 19 _ rfl (by kernel_rfl) 72 rfl
        cases f19
        obtain ⟨v20, e73, f20⟩ := xr.1 20 _ rfl (by kernel_rfl) 73 rfl
        cases f20
        obtain ⟨v18, e71, f18⟩ := xr.1 18 _ rfl (by kernel_rfl) 71 rfl
        cases f18
        clear xr xd
        go_simp
        have HX := ext_trans (ext_trans hb1 hb2) xb
        refine (cut_calls A c l n _ HA.out hc (HR.out.ext HX) hb).mono ?_
        rintro e w3 ⟨v', rfl, ho, hb3⟩
        exact xk _ _ hb3 (own_mono ho HX.size)
      case r6_s22 =>
        intro xo ho xa xw xb xd xr xK xk
        simp only [List.getElem?_toArray, List.getElem?_cons_succ, List.getElem?_cons_zero, Option.some.injEq] at ho; subst ho
        obtain ⟨v21, e74, f21⟩ := xr.1 21 _ rfl (by kernel_rfl) 74 rfl
        obtain ⟨v18, e71, f18⟩ := xr.1 18 _ rfl (by kernel_rfl) 71 rfl
        cases f18
        clear xr xd
        obtain ⟨A', cap', rfl, -, -, hR', -⟩ := Row.of_own f21
        have hconv := run_bytes_string_n (P := Try.prog) xw 22 9 5 A' _ cap' _ Try.underlying22 Try.underlying5 Try.underlying9 HK.out hR'
        go_simp
        exact xk _ _ (Below.refl _ _) (eqF_at _ _)
      case r6_s23 =>
        intro xo ho xa xw xb xd xr xK xk
        simp only [List.getElem?_toArray, List.getElem?_cons_succ, List.getElem?_cons_zero, Option.some.injEq] at ho; subst ho
        have e5 := xr.2 5 (by kernel_rfl); simp only [List.getElem?_toArray, List.getElem?_cons_succ, List.getElem?_cons_zero] at e5
        obtain ⟨v18, e71, f18⟩ := xr.1 18 _ rfl (by kernel_rfl) 71 rfl
        cases f18
        clear xr xd
        go_simp
        exact xk _ _ (Below.refl _ _) (eqF_at _ _)
      case r6_s24 =>
        intro xo ho xa xw xb xd xr xK xk
        simp only [List.getElem?_toArray, List.getElem?_cons_succ, List.getElem?_cons_zero, Option.some.injEq] at ho; subst ho
        have e4 := xr.2 4 (by kernel_rfl); simp only [List.getElem?_toArray, List.getElem?_cons_succ, List.getElem?_cons_zero] at e4
        obtain ⟨v18, e71, f18⟩ := xr.1 18 _ rfl (by kernel_rfl) 71 rfl
        cases f18
        clear xr xd
        go_simp
        exact xk _ _ (Below.refl _ _) (eqF_at _ _)
      case r6_s25 =>
        intro xo ho xa xw xb xd xr xK xk
        simp only [List.getElem?_toArray, List.getElem?_cons_succ, List.getElem?_cons_zero, Option.some.injEq] at ho; subst ho
        obtain ⟨v23, e76, f23⟩ := xr.1 23 _ rfl (by kernel_rfl) 76 rfl
        cases f23
        obtain ⟨v24, e77, f24⟩ := xr.1 24 _ rfl (by kernel_rfl) 77 rfl
        cases f24
        obtain ⟨v18, e71, f18⟩ := xr.1 18 _ rfl (by kernel_rfl) 71 rfl
        cases f18
        clear xr xd
        go_simp
        have HX := ext_trans (ext_trans hb1 hb2) xb
        refine (rcut_calls A c l n _ HA.out (HR.out.ext HX) hb).mono ?_
        rintro e w3 ⟨v', rfl, ho, hb3⟩
        exact xk _ _ hb3 (own_mono ho HX.size)
      case r6_s26 =>
        intro xo ho xa xw xb xd xr xK xk
        simp only [List.getElem?_toArray, List.getElem?_cons_succ, List.getElem?_cons_zero, Option.some.injEq] at ho; subst ho
        obtain ⟨v25, e78, f25⟩ := xr.1 25 _ rfl (by kernel_rfl) 78 rfl
        obtain ⟨v18, e71, f18⟩ := xr.1 18 _ rfl (by kernel_rfl) 71 rfl
        cases f18
        clear xr xd
        obtain ⟨A', cap', rfl, -, -, hR', -⟩ := Row.of_own f25
        have hconv := run_bytes_string_n (P := Try.prog) xw 22 9 5 A' _ cap' _ Try.underlying22 Try.underlying5 Try.underlying9 HK.out hR'
        go_simp
        exact xk _ _ (Below.refl _ _) (eqF_at _ _)
      case r6_s27 =>
        intro xo ho xa xw xb xd xr xK xk
        simp only [List.getElem?_toArray, List.getElem?_cons_succ, List.getElem?_cons_zero, Option.some.injEq] at ho; subst ho
        obtain ⟨v22, e75, f22⟩ := xr.1 22 _ rfl (by kernel_rfl) 75 rfl
        cases f22
        obtain ⟨v26, e79, f26⟩ := xr.1 26 _ rfl (by kernel_rfl) 79 rfl
        cases f26
        obtain ⟨v18, e71, f18⟩ := xr.1 18 _ rfl (by kernel_rfl) 71 rfl
        cases f18
        clear xr xd
        go_simp
        exact xk _ _ (Below.refl _ _) (eqF_at _ _)
      case r6_s28 =>
        intro xo ho xa xw xb xd xr xK xk
        simp only [List.getElem?_toArray, List.getElem?_cons_succ, List.getElem?_cons_zero, Option.some.injEq] at ho; subst ho
        obtain ⟨v18, e71, f18⟩ := xr.1 18 _ rfl (by kernel_rfl) 71 rfl
        cases f18
        obtain ⟨v27, e80, f27⟩ := xr.1 27 _ rfl (by kernel_rfl) 80 rfl
        cases f27
        clear xr xd
        go_simp
        exact xk _ _ (Below.refl _ _) (eqF_at _ _)
      case r6_s29 =>
        intro xo ho xa xw xb xd xr xK xk
        simp only [List.getElem?_toArray, List.getElem?_cons_succ, List.getElem?_cons_zero, Option.some.injEq] at ho; subst ho
        obtain ⟨v28, e81, f28⟩ := xr.1 28 _ rfl (by kernel_rfl) 81 rfl
        cases f28
        clear xr xd
        go_simp
        exact xk _ _ (Below.refl _ _) (eqF_at _ _)
    case hfin =>
      intro xs0 r6w xb xF0
      obtain ⟨r6v0, xs1, rfl, f0, xF1⟩ := FsAll_cons xF0; clear xF0; cases f0
      obtain ⟨r6v1, xs2, rfl, f1, xF2⟩ := FsAll_cons xF1; clear xF1; cases f1
      obtain ⟨r6v2, xs3, rfl, f2, xF3⟩ := FsAll_cons xF2; clear xF2; cases f2
      obtain ⟨r6v3, xs4, rfl, f3, xF4⟩ := FsAll_cons xF3; clear xF3; cases f3
      obtain ⟨r6v4, xs5, rfl, f4, xF5⟩ := FsAll_cons xF4; clear xF4; cases f4
      obtain ⟨r6v5, xs6, rfl, f5, xF6⟩ := FsAll_cons xF5; clear xF5; cases f5
      obtain ⟨r6v6, xs7, rfl, f6, xF7⟩ := FsAll_cons xF6; clear xF6; cases f6
      obtain ⟨r6v7, xs8, rfl, f7, xF8⟩ := FsAll_cons xF7; clear xF7; cases f7
      obtain ⟨r6v8, xs9, rfl, f8, xF9⟩ := FsAll_cons xF8; clear xF8; cases f8
      obtain ⟨r6v9, xs10, rfl, f9, xF10⟩ := FsAll_cons xF9; clear xF9; cases f9
      obtain ⟨r6v10, xs11, rfl, f10, xF11⟩ := FsAll_cons xF10; clear xF10; cases f10
      obtain ⟨r6v11, xs12, rfl, f11, xF12⟩ := FsAll_cons xF11; clear xF11; cases f11
      obtain ⟨r6v12, xs13, rfl, f12, xF13⟩ := FsAll_cons xF12; clear xF12; cases f12
      obtain ⟨r6v13, xs14, rfl, f13, xF14⟩ := FsAll_cons xF13; clear xF13; cases f13
      obtain ⟨r6v14, xs15, rfl, f14, xF15⟩ := FsAll_cons xF14; clear xF14; cases f14
      obtain ⟨r6v15, xs16, rfl, f15, xF16⟩ := FsAll_cons xF15; clear xF15; cases f15
      obtain ⟨r6v16, xs17, rfl, f16, xF17⟩ := FsAll_cons xF16; clear xF16; cases f16
      obtain ⟨r6v17, xs18, rfl, f17, xF18⟩ := FsAll_cons xF17; clear xF17; cases f17
      obtain ⟨r6v18, xs19, rfl, f18, xF19⟩ := FsAll_cons xF18; clear xF18; cases f18
      obtain ⟨r6v19, xs20, rfl, f19, xF20⟩ := FsAll_cons xF19; clear xF19; cases f19
      obtain ⟨r6v20, xs21, rfl, f20, xF21⟩ := FsAll_cons xF20; clear xF20; cases f20
      obtain ⟨r6v21, xs22, rfl, f21, xF22⟩ := FsAll_cons xF21; clear xF21
      obtain ⟨r6v22, xs23, rfl, f22, xF23⟩ := FsAll_cons xF22; clear xF22; cases f22
      obtain ⟨r6v23, xs24, rfl, f23, xF24⟩ := FsAll_cons xF23; clear xF23; cases f23
      obtain ⟨r6v24, xs25, rfl, f24, xF25⟩ := FsAll_cons xF24; clear xF24; cases f24
      obtain ⟨r6v25, xs26, rfl, f25, xF26⟩ := FsAll_cons xF25; clear xF25
      obtain ⟨r6v26, xs27, rfl, f26, xF27⟩ := FsAll_cons xF26; clear xF26; cases f26
      obtain ⟨r6v27, xs28, rfl, f27, xF28⟩ := FsAll_cons xF27; clear xF27; cases f27
      obtain ⟨r6v28, xs29, rfl, f28, xF29⟩ := FsAll_cons xF28; clear xF28; cases f28
      obtain ⟨r6v29, xs30, rfl, f29, xF30⟩ := FsAll_cons xF29; clear xF29; cases f29
      obtain rfl := FsAll_nil xF30
      clear xF30
      simp only [List.map_cons, List.map_nil, putAll, List.setIfInBounds_toArray, List.set_cons_succ, List.set_cons_zero]
      go_wp2
      go_ret
      exact ⟨rfl, ext_trans (ext_trans hb1 hb2) xb⟩
  · go_enter Try.func3, Try.ntmps3
    go_wp2_with fail
    refine (awake_calls _).mono ?_
    rintro e w1 ⟨rfl, hb1⟩
    go_wp2
    go_ret
    exact ⟨rfl, hb1⟩
end Go.Proofs.Ytddifhkiknnlbaa
