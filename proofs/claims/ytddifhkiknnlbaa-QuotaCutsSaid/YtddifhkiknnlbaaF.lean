import Derived.Test.YtddifhkiknnlbaaC
/-! The law QuotaCuts. -/
set_option linter.unusedSimpArgs false
set_option linter.unusedVariables false
namespace Go.Proofs.Ytddifhkiknnlbaa
open Go.RowKit

theorem QuotaCuts_walk (A : Option Addr) (c : Nat) (l : List UInt8) (m : Int) (w : World) 
    (hc : l.length ≤ c) (hm : c ≤ maxLen) (hA : A = none → l.length = 0 ∧ c = 0) (hr : Row w A (bVs l)) (_ : (Lit.int .i64 m).wf = true) :
    Calls Try.prog 5 #[.slice A l.length c, .int .i64 m] w fun e w' => e = .returned (.bool true) ∧ Below w.heap.size w w' := by
  unfold maxLen at hm
  have HR := Lib.hid hr
  clear hr
  have HA := Lib.hid hA; clear hA
  by_cases hlen : l.length ≤ 300
  · have hb : l.length ≤ 140737488355328 := by omega
    by_cases h1 : m < 0
    · have kn : Hid (cutN m l.length = 0) := by show cutN m l.length = 0; unfold cutN; rw [if_pos h1]
      go_enter Try.func5, Try.ntmps5
      go_wp2_with fail
      refine (awake_calls _).mono ?_
      rintro e w1 ⟨rfl, hb1⟩
      go_wp2_with fail
      refine (cut_calls A c l m w1 HA.out hc (HR.out.ext hb1) hb).mono ?_
      rintro e w2 ⟨v', rfl, ho, hb2⟩
      rw [kn.out] at ho
      obtain ⟨A', cap', rfl, -, -, hR', -⟩ := Row.of_own ho
      have HR' := Lib.hid hR'
      clear ho hR'
      go_wp2_with fail
      have hk : (l.take 0).length = 0 := by rw [List.length_take]; omega
      have HK := Lib.hid hk
      clear hk
      apply fun (rac0 rac1 rac2 rac3 rac4 rac5 rac6 rac7 rac8 rac9 rac10 rac11 rac12 rac13 : Value) => wp_region_go [eqF rac0, eqF rac1, eqF rac2, eqF rac3, eqF rac4, eqF rac5, eqF rac6, eqF rac7, eqF rac8, eqF rac9, eqF rac10, eqF rac11, eqF rac12, eqF rac13] 14
      case hpre => exact ⟨by kernel_rfl, rfl, rfl, by kernel_rfl⟩
      case hstep =>
        refine (allLt (allLt (allLt (allLt (allLt (allLt (allLt (allLt (allLt (allLt (allLt (allLt (allLt (allLt allLt0 ?ra_s0) ?ra_s1) ?ra_s2) ?ra_s3) ?ra_s4) ?ra_s5) ?ra_s6) ?ra_s7) ?ra_s8) ?ra_s9) ?ra_s10) ?ra_s11) ?ra_s12) ?ra_s13)
        case ra_s0 =>
          intro xo ho xa xw xb xd xr xK xk
          simp only [List.getElem?_toArray, List.getElem?_cons_succ, List.getElem?_cons_zero, Option.some.injEq] at ho; subst ho
          have e6 := xr.2 6 (by kernel_rfl); simp only [List.getElem?_toArray, List.getElem?_cons_succ, List.getElem?_cons_zero] at e6
          clear xr xd
          go_simp
          exact xk _ _ (Below.refl _ _) (eqF_at _ _)
        case ra_s1 =>
          intro xo ho xa xw xb xd xr xK xk
          simp only [List.getElem?_toArray, List.getElem?_cons_succ, List.getElem?_cons_zero, Option.some.injEq] at ho; subst ho
          obtain ⟨v0, e29, f0⟩ := xr.1 0 _ rfl (by kernel_rfl) 29 rfl
          cases f0
          clear xr xd
          go_simp
          exact xk _ _ (Below.refl _ _) (eqF_at _ _)
        case ra_s2 =>
          intro xo ho xa xw xb xd xr xK xk
          simp only [List.getElem?_toArray, List.getElem?_cons_succ, List.getElem?_cons_zero, Option.some.injEq] at ho; subst ho
          have e7 := xr.2 7 (by kernel_rfl); simp only [List.getElem?_toArray, List.getElem?_cons_succ, List.getElem?_cons_zero] at e7
          clear xr xd
          go_simp
          exact xk _ _ (Below.refl _ _) (eqF_at _ _)
        case ra_s3 =>
          intro xo ho xa xw xb xd xr xK xk
          simp only [List.getElem?_toArray, List.getElem?_cons_succ, List.getElem?_cons_zero, Option.some.injEq] at ho; subst ho
          obtain ⟨v1, e30, f1⟩ := xr.1 1 _ rfl (by kernel_rfl) 30 rfl
          cases f1
          obtain ⟨v2, e31, f2⟩ := xr.1 2 _ rfl (by kernel_rfl) 31 rfl
          cases f2
          clear xr xd
          go_simp
          exact xk _ _ (Below.refl _ _) (eqF_at _ _)
        case ra_s4 =>
          intro xo ho xa xw xb xd xr xK xk
          simp only [List.getElem?_toArray, List.getElem?_cons_succ, List.getElem?_cons_zero, Option.some.injEq] at ho; subst ho
          obtain ⟨v3, e32, f3⟩ := xr.1 3 _ rfl (by kernel_rfl) 32 rfl
          cases f3
          clear xr xd
          go_simp
          exact xk _ _ (Below.refl _ _) (eqF_at _ _)
        case ra_s5 =>
          intro xo ho xa xw xb xd xr xK xk
          simp only [List.getElem?_toArray, List.getElem?_cons_succ, List.getElem?_cons_zero, Option.some.injEq] at ho; subst ho
          have e6 := xr.2 6 (by kernel_rfl); simp only [List.getElem?_toArray, List.getElem?_cons_succ, List.getElem?_cons_zero] at e6
          obtain ⟨v4, e33, f4⟩ := xr.1 4 _ rfl (by kernel_rfl) 33 rfl
          cases f4
          clear xr xd
          go_simp
          exact xk _ _ (Below.refl _ _) (eqF_at _ _)
        case ra_s6 =>
          intro xo ho xa xw xb xd xr xK xk
          simp only [List.getElem?_toArray, List.getElem?_cons_succ, List.getElem?_cons_zero, Option.some.injEq] at ho; subst ho
          obtain ⟨v5, e34, f5⟩ := xr.1 5 _ rfl (by kernel_rfl) 34 rfl
          cases f5
          obtain ⟨v4, e33, f4⟩ := xr.1 4 _ rfl (by kernel_rfl) 33 rfl
          cases f4
          clear xr xd
          have hconv := run_bytes_string_n (P := Try.prog) xw 22 9 5 A' _ cap' _ Try.underlying22 Try.underlying5 Try.underlying9 HK.out (HR'.out.ext xb)
          go_simp
          exact xk _ _ (Below.refl _ _) (eqF_at _ _)
        case ra_s7 =>
          intro xo ho xa xw xb xd xr xK xk
          simp only [List.getElem?_toArray, List.getElem?_cons_succ, List.getElem?_cons_zero, Option.some.injEq] at ho; subst ho
          have e0 := xr.2 0 (by kernel_rfl); simp only [List.getElem?_toArray, List.getElem?_cons_succ, List.getElem?_cons_zero] at e0
          obtain ⟨v4, e33, f4⟩ := xr.1 4 _ rfl (by kernel_rfl) 33 rfl
          cases f4
          clear xr xd
          go_simp
          exact xk _ _ (Below.refl _ _) (eqF_at _ _)
        case ra_s8 =>
          intro xo ho xa xw xb xd xr xK xk
          simp only [List.getElem?_toArray, List.getElem?_cons_succ, List.getElem?_cons_zero, Option.some.injEq] at ho; subst ho
          have e7 := xr.2 7 (by kernel_rfl); simp only [List.getElem?_toArray, List.getElem?_cons_succ, List.getElem?_cons_zero] at e7
          obtain ⟨v4, e33, f4⟩ := xr.1 4 _ rfl (by kernel_rfl) 33 rfl
          cases f4
          clear xr xd
          go_simp
          exact xk _ _ (Below.refl _ _) (eqF_at _ _)
        case ra_s9 =>
          intro xo ho xa xw xb xd xr xK xk
          simp only [List.getElem?_toArray, List.getElem?_cons_succ, List.getElem?_cons_zero, Option.some.injEq] at ho; subst ho
          obtain ⟨v7, e36, f7⟩ := xr.1 7 _ rfl (by kernel_rfl) 36 rfl
          cases f7
          obtain ⟨v8, e37, f8⟩ := xr.1 8 _ rfl (by kernel_rfl) 37 rfl
          cases f8
          obtain ⟨v4, e33, f4⟩ := xr.1 4 _ rfl (by kernel_rfl) 33 rfl
          cases f4
          clear xr xd
          go_simp
          exact xk _ _ (Below.refl _ _) (eqF_at _ _)
        case ra_s10 =>
          intro xo ho xa xw xb xd xr xK xk
          simp only [List.getElem?_toArray, List.getElem?_cons_succ, List.getElem?_cons_zero, Option.some.injEq] at ho; subst ho
          obtain ⟨v9, e38, f9⟩ := xr.1 9 _ rfl (by kernel_rfl) 38 rfl
          cases f9
          obtain ⟨v4, e33, f4⟩ := xr.1 4 _ rfl (by kernel_rfl) 33 rfl
          cases f4
          clear xr xd
          have hconv := run_bytes_string_n (P := Try.prog) xw 22 9 5 A 0 c (l.take 0) Try.underlying22 Try.underlying5 Try.underlying9 HK.out (by rw [← bVs_take]; exact (HR.out.ext (ext_trans (ext_trans hb1 hb2) xb)).take _)
          go_simp
          exact xk _ _ (Below.refl _ _) (eqF_at _ _)
        case ra_s11 =>
          intro xo ho xa xw xb xd xr xK xk
          simp only [List.getElem?_toArray, List.getElem?_cons_succ, List.getElem?_cons_zero, Option.some.injEq] at ho; subst ho
          obtain ⟨v6, e35, f6⟩ := xr.1 6 _ rfl (by kernel_rfl) 35 rfl
          cases f6
          obtain ⟨v10, e39, f10⟩ := xr.1 10 _ rfl (by kernel_rfl) 39 rfl
          cases f10
          obtain ⟨v4, e33, f4⟩ := xr.1 4 _ rfl (by kernel_rfl) 33 rfl
          cases f4
          clear xr xd
          go_simp
          exact xk _ _ (Below.refl _ _) (eqF_at _ _)
        case ra_s12 =>
          intro xo ho xa xw xb xd xr xK xk
          simp only [List.getElem?_toArray, List.getElem?_cons_succ, List.getElem?_cons_zero, Option.some.injEq] at ho; subst ho
          obtain ⟨v4, e33, f4⟩ := xr.1 4 _ rfl (by kernel_rfl) 33 rfl
          cases f4
          obtain ⟨v11, e40, f11⟩ := xr.1 11 _ rfl (by kernel_rfl) 40 rfl
          cases f11
          clear xr xd
          go_simp
          exact xk _ _ (Below.refl _ _) (eqF_at _ _)
        case ra_s13 =>
          intro xo ho xa xw xb xd xr xK xk
          simp only [List.getElem?_toArray, List.getElem?_cons_succ, List.getElem?_cons_zero, Option.some.injEq] at ho; subst ho
          obtain ⟨v12, e41, f12⟩ := xr.1 12 _ rfl (by kernel_rfl) 41 rfl
          cases f12
          clear xr xd
          go_simp
          exact xk _ _ (Below.refl _ _) (eqF_at _ _)
      case hfin =>
        intro xs0 raw xb xF0
        obtain ⟨rav0, xs1, rfl, f0, xF1⟩ := FsAll_cons xF0; clear xF0; cases f0
        obtain ⟨rav1, xs2, rfl, f1, xF2⟩ := FsAll_cons xF1; clear xF1; cases f1
        obtain ⟨rav2, xs3, rfl, f2, xF3⟩ := FsAll_cons xF2; clear xF2; cases f2
        obtain ⟨rav3, xs4, rfl, f3, xF4⟩ := FsAll_cons xF3; clear xF3; cases f3
        obtain ⟨rav4, xs5, rfl, f4, xF5⟩ := FsAll_cons xF4; clear xF4; cases f4
        obtain ⟨rav5, xs6, rfl, f5, xF6⟩ := FsAll_cons xF5; clear xF5; cases f5
        obtain ⟨rav6, xs7, rfl, f6, xF7⟩ := FsAll_cons xF6; clear xF6; cases f6
        obtain ⟨rav7, xs8, rfl, f7, xF8⟩ := FsAll_cons xF7; clear xF7; cases f7
        obtain ⟨rav8, xs9, rfl, f8, xF9⟩ := FsAll_cons xF8; clear xF8; cases f8
        obtain ⟨rav9, xs10, rfl, f9, xF10⟩ := FsAll_cons xF9; clear xF9; cases f9
        obtain ⟨rav10, xs11, rfl, f10, xF11⟩ := FsAll_cons xF10; clear xF10; cases f10
        obtain ⟨rav11, xs12, rfl, f11, xF12⟩ := FsAll_cons xF11; clear xF11; cases f11
        obtain ⟨rav12, xs13, rfl, f12, xF13⟩ := FsAll_cons xF12; clear xF12; cases f12
        obtain ⟨rav13, xs14, rfl, f13, xF14⟩ := FsAll_cons xF13; clear xF13; cases f13
        obtain rfl := FsAll_nil xF14
        clear xF14
        simp only [List.map_cons, List.map_nil, putAll, List.setIfInBounds_toArray, List.set_cons_succ, List.set_cons_zero]
        go_wp2
        go_ret
        exact ⟨rfl, ext_trans (ext_trans hb1 hb2) xb⟩
    · by_cases h2 : m ≤ l.length
      · obtain ⟨k, rfl⟩ := Int.eq_ofNat_of_zero_le (show 0 ≤ m by omega)
        have hkl : k ≤ l.length := by omega
        have hkc : k ≤ c := by omega
        have kn : Hid (cutN (k : Int) l.length = k) := by show cutN (k : Int) l.length = k; unfold cutN; rw [if_neg (by omega)]; split <;> omega
        go_enter Try.func5, Try.ntmps5
        go_wp2_with fail
        refine (awake_calls _).mono ?_
        rintro e w1 ⟨rfl, hb1⟩
        go_wp2_with fail
        refine (cut_calls A c l (k : Int) w1 HA.out hc (HR.out.ext hb1) hb).mono ?_
        rintro e w2 ⟨v', rfl, ho, hb2⟩
        rw [kn.out] at ho
        obtain ⟨A', cap', rfl, -, -, hR', -⟩ := Row.of_own ho
        have HR' := Lib.hid hR'
        clear ho hR'
        go_wp2_with fail
        have hk : (l.take k).length = k := by rw [List.length_take]; omega
        have HK := Lib.hid hk
        clear hk
        apply fun (rbc0 rbc1 rbc2 rbc3 rbc4 rbc5 rbc6 rbc7 rbc8 rbc9 rbc10 rbc11 rbc12 rbc13 : Value) => wp_region_go [eqF rbc0, eqF rbc1, eqF rbc2, eqF rbc3, eqF rbc4, eqF rbc5, eqF rbc6, eqF rbc7, eqF rbc8, eqF rbc9, eqF rbc10, eqF rbc11, eqF rbc12, eqF rbc13] 14
        case hpre => exact ⟨by kernel_rfl, rfl, rfl, by kernel_rfl⟩
        case hstep =>
          refine (allLt (allLt (allLt (allLt (allLt (allLt (allLt (allLt (allLt (allLt (allLt (allLt (allLt (allLt allLt0 ?rb_s0) ?rb_s1) ?rb_s2) ?rb_s3) ?rb_s4) ?rb_s5) ?rb_s6) ?rb_s7) ?rb_s8) ?rb_s9) ?rb_s10) ?rb_s11) ?rb_s12) ?rb_s13)
          case rb_s0 =>
            intro xo ho xa xw xb xd xr xK xk
            simp only [List.getElem?_toArray, List.getElem?_cons_succ, List.getElem?_cons_zero, Option.some.injEq] at ho; subst ho
            have e6 := xr.2 6 (by kernel_rfl); simp only [List.getElem?_toArray, List.getElem?_cons_succ, List.getElem?_cons_zero] at e6
            clear xr xd
            go_simp
            exact xk _ _ (Below.refl _ _) (eqF_at _ _)
          case rb_s1 =>
            intro xo ho xa xw xb xd xr xK xk
            simp only [List.getElem?_toArray, List.getElem?_cons_succ, List.getElem?_cons_zero, Option.some.injEq] at ho; subst ho
            obtain ⟨v0, e29, f0⟩ := xr.1 0 _ rfl (by kernel_rfl) 29 rfl
            cases f0
            clear xr xd
            go_simp
            exact xk _ _ (Below.refl _ _) (eqF_at _ _)
          case rb_s2 =>
            intro xo ho xa xw xb xd xr xK xk
            simp only [List.getElem?_toArray, List.getElem?_cons_succ, List.getElem?_cons_zero, Option.some.injEq] at ho; subst ho
            have e7 := xr.2 7 (by kernel_rfl); simp only [List.getElem?_toArray, List.getElem?_cons_succ, List.getElem?_cons_zero] at e7
            clear xr xd
            go_simp
            exact xk _ _ (Below.refl _ _) (eqF_at _ _)
          case rb_s3 =>
            intro xo ho xa xw xb xd xr xK xk
            simp only [List.getElem?_toArray, List.getElem?_cons_succ, List.getElem?_cons_zero, Option.some.injEq] at ho; subst ho
            obtain ⟨v1, e30, f1⟩ := xr.1 1 _ rfl (by kernel_rfl) 30 rfl
            cases f1
            obtain ⟨v2, e31, f2⟩ := xr.1 2 _ rfl (by kernel_rfl) 31 rfl
            cases f2
            clear xr xd
            go_simp
            exact xk _ _ (Below.refl _ _) (eqF_at _ _)
          case rb_s4 =>
            intro xo ho xa xw xb xd xr xK xk
            simp only [List.getElem?_toArray, List.getElem?_cons_succ, List.getElem?_cons_zero, Option.some.injEq] at ho; subst ho
            obtain ⟨v3, e32, f3⟩ := xr.1 3 _ rfl (by kernel_rfl) 32 rfl
            cases f3
            clear xr xd
            go_simp
            exact xk _ _ (Below.refl _ _) (eqF_at _ _)
          case rb_s5 =>
            intro xo ho xa xw xb xd xr xK xk
            simp only [List.getElem?_toArray, List.getElem?_cons_succ, List.getElem?_cons_zero, Option.some.injEq] at ho; subst ho
            have e6 := xr.2 6 (by kernel_rfl); simp only [List.getElem?_toArray, List.getElem?_cons_succ, List.getElem?_cons_zero] at e6
            obtain ⟨v4, e33, f4⟩ := xr.1 4 _ rfl (by kernel_rfl) 33 rfl
            cases f4
            clear xr xd
            go_simp
            exact xk _ _ (Below.refl _ _) (eqF_at _ _)
          case rb_s6 =>
            intro xo ho xa xw xb xd xr xK xk
            simp only [List.getElem?_toArray, List.getElem?_cons_succ, List.getElem?_cons_zero, Option.some.injEq] at ho; subst ho
            obtain ⟨v5, e34, f5⟩ := xr.1 5 _ rfl (by kernel_rfl) 34 rfl
            cases f5
            obtain ⟨v4, e33, f4⟩ := xr.1 4 _ rfl (by kernel_rfl) 33 rfl
            cases f4
            clear xr xd
            have hconv := run_bytes_string_n (P := Try.prog) xw 22 9 5 A' _ cap' _ Try.underlying22 Try.underlying5 Try.underlying9 HK.out (HR'.out.ext xb)
            go_simp
            exact xk _ _ (Below.refl _ _) (eqF_at _ _)
          case rb_s7 =>
            intro xo ho xa xw xb xd xr xK xk
            simp only [List.getElem?_toArray, List.getElem?_cons_succ, List.getElem?_cons_zero, Option.some.injEq] at ho; subst ho
            have e0 := xr.2 0 (by kernel_rfl); simp only [List.getElem?_toArray, List.getElem?_cons_succ, List.getElem?_cons_zero] at e0
            obtain ⟨v4, e33, f4⟩ := xr.1 4 _ rfl (by kernel_rfl) 33 rfl
            cases f4
            clear xr xd
            go_simp
            exact xk _ _ (Below.refl _ _) (eqF_at _ _)
          case rb_s8 =>
            intro xo ho xa xw xb xd xr xK xk
            simp only [List.getElem?_toArray, List.getElem?_cons_succ, List.getElem?_cons_zero, Option.some.injEq] at ho; subst ho
            have e7 := xr.2 7 (by kernel_rfl); simp only [List.getElem?_toArray, List.getElem?_cons_succ, List.getElem?_cons_zero] at e7
            obtain ⟨v4, e33, f4⟩ := xr.1 4 _ rfl (by kernel_rfl) 33 rfl
            cases f4
            clear xr xd
            go_simp
            exact xk _ _ (Below.refl _ _) (eqF_at _ _)
          case rb_s9 =>
            intro xo ho xa xw xb xd xr xK xk
            simp only [List.getElem?_toArray, List.getElem?_cons_succ, List.getElem?_cons_zero, Option.some.injEq] at ho; subst ho
            obtain ⟨v7, e36, f7⟩ := xr.1 7 _ rfl (by kernel_rfl) 36 rfl
            cases f7
            obtain ⟨v8, e37, f8⟩ := xr.1 8 _ rfl (by kernel_rfl) 37 rfl
            cases f8
            obtain ⟨v4, e33, f4⟩ := xr.1 4 _ rfl (by kernel_rfl) 33 rfl
            cases f4
            clear xr xd
            go_simp
            exact xk _ _ (Below.refl _ _) (eqF_at _ _)
          case rb_s10 =>
            intro xo ho xa xw xb xd xr xK xk
            simp only [List.getElem?_toArray, List.getElem?_cons_succ, List.getElem?_cons_zero, Option.some.injEq] at ho; subst ho
            obtain ⟨v9, e38, f9⟩ := xr.1 9 _ rfl (by kernel_rfl) 38 rfl
            cases f9
            obtain ⟨v4, e33, f4⟩ := xr.1 4 _ rfl (by kernel_rfl) 33 rfl
            cases f4
            clear xr xd
            have hconv := run_bytes_string_n (P := Try.prog) xw 22 9 5 A k c (l.take k) Try.underlying22 Try.underlying5 Try.underlying9 HK.out (by rw [← bVs_take]; exact (HR.out.ext (ext_trans (ext_trans hb1 hb2) xb)).take _)
            go_simp
            exact xk _ _ (Below.refl _ _) (eqF_at _ _)
          case rb_s11 =>
            intro xo ho xa xw xb xd xr xK xk
            simp only [List.getElem?_toArray, List.getElem?_cons_succ, List.getElem?_cons_zero, Option.some.injEq] at ho; subst ho
            obtain ⟨v6, e35, f6⟩ := xr.1 6 _ rfl (by kernel_rfl) 35 rfl
            cases f6
            obtain ⟨v10, e39, f10⟩ := xr.1 10 _ rfl (by kernel_rfl) 39 rfl
            cases f10
            obtain ⟨v4, e33, f4⟩ := xr.1 4 _ rfl (by kernel_rfl) 33 rfl
            cases f4
            clear xr xd
            go_simp
            exact xk _ _ (Below.refl _ _) (eqF_at _ _)
          case rb_s12 =>
            intro xo ho xa xw xb xd xr xK xk
            simp only [List.getElem?_toArray, List.getElem?_cons_succ, List.getElem?_cons_zero, Option.some.injEq] at ho; subst ho
            obtain ⟨v4, e33, f4⟩ := xr.1 4 _ rfl (by kernel_rfl) 33 rfl
            cases f4
            obtain ⟨v11, e40, f11⟩ := xr.1 11 _ rfl (by kernel_rfl) 40 rfl
            cases f11
            clear xr xd
            go_simp
            exact xk _ _ (Below.refl _ _) (eqF_at _ _)
          case rb_s13 =>
            intro xo ho xa xw xb xd xr xK xk
            simp only [List.getElem?_toArray, List.getElem?_cons_succ, List.getElem?_cons_zero, Option.some.injEq] at ho; subst ho
            obtain ⟨v12, e41, f12⟩ := xr.1 12 _ rfl (by kernel_rfl) 41 rfl
            cases f12
            clear xr xd
            go_simp
            exact xk _ _ (Below.refl _ _) (eqF_at _ _)
        case hfin =>
          intro xs0 rbw xb xF0
          obtain ⟨rbv0, xs1, rfl, f0, xF1⟩ := FsAll_cons xF0; clear xF0; cases f0
          obtain ⟨rbv1, xs2, rfl, f1, xF2⟩ := FsAll_cons xF1; clear xF1; cases f1
          obtain ⟨rbv2, xs3, rfl, f2, xF3⟩ := FsAll_cons xF2; clear xF2; cases f2
          obtain ⟨rbv3, xs4, rfl, f3, xF4⟩ := FsAll_cons xF3; clear xF3; cases f3
          obtain ⟨rbv4, xs5, rfl, f4, xF5⟩ := FsAll_cons xF4; clear xF4; cases f4
          obtain ⟨rbv5, xs6, rfl, f5, xF6⟩ := FsAll_cons xF5; clear xF5; cases f5
          obtain ⟨rbv6, xs7, rfl, f6, xF7⟩ := FsAll_cons xF6; clear xF6; cases f6
          obtain ⟨rbv7, xs8, rfl, f7, xF8⟩ := FsAll_cons xF7; clear xF7; cases f7
          obtain ⟨rbv8, xs9, rfl, f8, xF9⟩ := FsAll_cons xF8; clear xF8; cases f8
          obtain ⟨rbv9, xs10, rfl, f9, xF10⟩ := FsAll_cons xF9; clear xF9; cases f9
          obtain ⟨rbv10, xs11, rfl, f10, xF11⟩ := FsAll_cons xF10; clear xF10; cases f10
          obtain ⟨rbv11, xs12, rfl, f11, xF12⟩ := FsAll_cons xF11; clear xF11; cases f11
          obtain ⟨rbv12, xs13, rfl, f12, xF13⟩ := FsAll_cons xF12; clear xF12; cases f12
          obtain ⟨rbv13, xs14, rfl, f13, xF14⟩ := FsAll_cons xF13; clear xF13; cases f13
          obtain rfl := FsAll_nil xF14
          clear xF14
          simp only [List.map_cons, List.map_nil, putAll, List.setIfInBounds_toArray, List.set_cons_succ, List.set_cons_zero]
          go_wp2
          go_ret
          exact ⟨rfl, ext_trans (ext_trans hb1 hb2) xb⟩
      · have kn : Hid (cutN m l.length = l.length) := by show cutN m l.length = l.length; unfold cutN; rw [if_neg (by omega), if_neg (by omega)]
        go_enter Try.func5, Try.ntmps5
        go_wp2_with fail
        refine (awake_calls _).mono ?_
        rintro e w1 ⟨rfl, hb1⟩
        go_wp2_with fail
        refine (cut_calls A c l m w1 HA.out hc (HR.out.ext hb1) hb).mono ?_
        rintro e w2 ⟨v', rfl, ho, hb2⟩
        rw [kn.out] at ho
        obtain ⟨A', cap', rfl, -, -, hR', -⟩ := Row.of_own ho
        have HR' := Lib.hid hR'
        clear ho hR'
        go_wp2_with fail
        have hk : (l.take l.length).length = l.length := by rw [List.length_take]; omega
        have HK := Lib.hid hk
        clear hk
        apply fun (rdc0 rdc1 rdc2 rdc3 rdc4 rdc5 rdc6 rdc7 rdc8 rdc9 rdc10 rdc11 rdc12 rdc13 : Value) => wp_region_go [eqF rdc0, eqF rdc1, eqF rdc2, eqF rdc3, eqF rdc4, eqF rdc5, eqF rdc6, eqF rdc7, eqF rdc8, eqF rdc9, eqF rdc10, eqF rdc11, eqF rdc12, eqF rdc13] 14
        case hpre => exact ⟨by kernel_rfl, rfl, rfl, by kernel_rfl⟩
        case hstep =>
          refine (allLt (allLt (allLt (allLt (allLt (allLt (allLt (allLt (allLt (allLt (allLt (allLt (allLt (allLt allLt0 ?rd_s0) ?rd_s1) ?rd_s2) ?rd_s3) ?rd_s4) ?rd_s5) ?rd_s6) ?rd_s7) ?rd_s8) ?rd_s9) ?rd_s10) ?rd_s11) ?rd_s12) ?rd_s13)
          case rd_s0 =>
            intro xo ho xa xw xb xd xr xK xk
            simp only [List.getElem?_toArray, List.getElem?_cons_succ, List.getElem?_cons_zero, Option.some.injEq] at ho; subst ho
            have e6 := xr.2 6 (by kernel_rfl); simp only [List.getElem?_toArray, List.getElem?_cons_succ, List.getElem?_cons_zero] at e6
            clear xr xd
            go_simp
            exact xk _ _ (Below.refl _ _) (eqF_at _ _)
          case rd_s1 =>
            intro xo ho xa xw xb xd xr xK xk
            simp only [List.getElem?_toArray, List.getElem?_cons_succ, List.getElem?_cons_zero, Option.some.injEq] at ho; subst ho
            obtain ⟨v0, e29, f0⟩ := xr.1 0 _ rfl (by kernel_rfl) 29 rfl
            cases f0
            clear xr xd
            go_simp
            exact xk _ _ (Below.refl _ _) (eqF_at _ _)
          case rd_s2 =>
            intro xo ho xa xw xb xd xr xK xk
            simp only [List.getElem?_toArray, List.getElem?_cons_succ, List.getElem?_cons_zero, Option.some.injEq] at ho; subst ho
            have e7 := xr.2 7 (by kernel_rfl); simp only [List.getElem?_toArray, List.getElem?_cons_succ, List.getElem?_cons_zero] at e7
            clear xr xd
            go_simp
            exact xk _ _ (Below.refl _ _) (eqF_at _ _)
          case rd_s3 =>
            intro xo ho xa xw xb xd xr xK xk
            simp only [List.getElem?_toArray, List.getElem?_cons_succ, List.getElem?_cons_zero, Option.some.injEq] at ho; subst ho
            obtain ⟨v1, e30, f1⟩ := xr.1 1 _ rfl (by kernel_rfl) 30 rfl
            cases f1
            obtain ⟨v2, e31, f2⟩ := xr.1 2 _ rfl (by kernel_rfl) 31 rfl
            cases f2
            clear xr xd
            go_simp
            exact xk _ _ (Below.refl _ _) (eqF_at _ _)
          case rd_s4 =>
            intro xo ho xa xw xb xd xr xK xk
            simp only [List.getElem?_toArray, List.getElem?_cons_succ, List.getElem?_cons_zero, Option.some.injEq] at ho; subst ho
            obtain ⟨v3, e32, f3⟩ := xr.1 3 _ rfl (by kernel_rfl) 32 rfl
            cases f3
            clear xr xd
            go_simp
            exact xk _ _ (Below.refl _ _) (eqF_at _ _)
          case rd_s5 =>
            intro xo ho xa xw xb xd xr xK xk
            simp only [List.getElem?_toArray, List.getElem?_cons_succ, List.getElem?_cons_zero, Option.some.injEq] at ho; subst ho
            have e6 := xr.2 6 (by kernel_rfl); simp only [List.getElem?_toArray, List.getElem?_cons_succ, List.getElem?_cons_zero] at e6
            obtain ⟨v4, e33, f4⟩ := xr.1 4 _ rfl (by kernel_rfl) 33 rfl
            cases f4
            clear xr xd
            go_simp
            exact xk _ _ (Below.refl _ _) (eqF_at _ _)
          case rd_s6 =>
            intro xo ho xa xw xb xd xr xK xk
            simp only [List.getElem?_toArray, List.getElem?_cons_succ, List.getElem?_cons_zero, Option.some.injEq] at ho; subst ho
            obtain ⟨v5, e34, f5⟩ := xr.1 5 _ rfl (by kernel_rfl) 34 rfl
            cases f5
            obtain ⟨v4, e33, f4⟩ := xr.1 4 _ rfl (by kernel_rfl) 33 rfl
            cases f4
            clear xr xd
            have hconv := run_bytes_string_n (P := Try.prog) xw 22 9 5 A' _ cap' _ Try.underlying22 Try.underlying5 Try.underlying9 HK.out (HR'.out.ext xb)
            go_simp
            exact xk _ _ (Below.refl _ _) (eqF_at _ _)
          case rd_s7 =>
            intro xo ho xa xw xb xd xr xK xk
            simp only [List.getElem?_toArray, List.getElem?_cons_succ, List.getElem?_cons_zero, Option.some.injEq] at ho; subst ho
            have e0 := xr.2 0 (by kernel_rfl); simp only [List.getElem?_toArray, List.getElem?_cons_succ, List.getElem?_cons_zero] at e0
            obtain ⟨v4, e33, f4⟩ := xr.1 4 _ rfl (by kernel_rfl) 33 rfl
            cases f4
            clear xr xd
            go_simp
            exact xk _ _ (Below.refl _ _) (eqF_at _ _)
          case rd_s8 =>
            intro xo ho xa xw xb xd xr xK xk
            simp only [List.getElem?_toArray, List.getElem?_cons_succ, List.getElem?_cons_zero, Option.some.injEq] at ho; subst ho
            have e7 := xr.2 7 (by kernel_rfl); simp only [List.getElem?_toArray, List.getElem?_cons_succ, List.getElem?_cons_zero] at e7
            obtain ⟨v4, e33, f4⟩ := xr.1 4 _ rfl (by kernel_rfl) 33 rfl
            cases f4
            clear xr xd
            go_simp
            exact xk _ _ (Below.refl _ _) (eqF_at _ _)
          case rd_s9 =>
            intro xo ho xa xw xb xd xr xK xk
            simp only [List.getElem?_toArray, List.getElem?_cons_succ, List.getElem?_cons_zero, Option.some.injEq] at ho; subst ho
            obtain ⟨v7, e36, f7⟩ := xr.1 7 _ rfl (by kernel_rfl) 36 rfl
            cases f7
            obtain ⟨v8, e37, f8⟩ := xr.1 8 _ rfl (by kernel_rfl) 37 rfl
            cases f8
            obtain ⟨v4, e33, f4⟩ := xr.1 4 _ rfl (by kernel_rfl) 33 rfl
            cases f4
            clear xr xd
            go_simp
            exact xk _ _ (Below.refl _ _) (eqF_at _ _)
          case rd_s10 =>
            intro xo ho xa xw xb xd xr xK xk
            simp only [List.getElem?_toArray, List.getElem?_cons_succ, List.getElem?_cons_zero, Option.some.injEq] at ho; subst ho
            obtain ⟨v9, e38, f9⟩ := xr.1 9 _ rfl (by kernel_rfl) 38 rfl
            cases f9
            obtain ⟨v4, e33, f4⟩ := xr.1 4 _ rfl (by kernel_rfl) 33 rfl
            cases f4
            clear xr xd
            have hconv := run_bytes_string_n (P := Try.prog) xw 22 9 5 A l.length c (l.take l.length) Try.underlying22 Try.underlying5 Try.underlying9 HK.out (by rw [← bVs_take]; exact (HR.out.ext (ext_trans (ext_trans hb1 hb2) xb)).take _)
            go_simp
            exact xk _ _ (Below.refl _ _) (eqF_at _ _)
          case rd_s11 =>
            intro xo ho xa xw xb xd xr xK xk
            simp only [List.getElem?_toArray, List.getElem?_cons_succ, List.getElem?_cons_zero, Option.some.injEq] at ho; subst ho
            obtain ⟨v6, e35, f6⟩ := xr.1 6 _ rfl (by kernel_rfl) 35 rfl
            cases f6
            obtain ⟨v10, e39, f10⟩ := xr.1 10 _ rfl (by kernel_rfl) 39 rfl
            cases f10
            obtain ⟨v4, e33, f4⟩ := xr.1 4 _ rfl (by kernel_rfl) 33 rfl
            cases f4
            clear xr xd
            go_simp
            exact xk _ _ (Below.refl _ _) (eqF_at _ _)
          case rd_s12 =>
            intro xo ho xa xw xb xd xr xK xk
            simp only [List.getElem?_toArray, List.getElem?_cons_succ, List.getElem?_cons_zero, Option.some.injEq] at ho; subst ho
            obtain ⟨v4, e33, f4⟩ := xr.1 4 _ rfl (by kernel_rfl) 33 rfl
            cases f4
            obtain ⟨v11, e40, f11⟩ := xr.1 11 _ rfl (by kernel_rfl) 40 rfl
            cases f11
            clear xr xd
            go_simp
            exact xk _ _ (Below.refl _ _) (eqF_at _ _)
          case rd_s13 =>
            intro xo ho xa xw xb xd xr xK xk
            simp only [List.getElem?_toArray, List.getElem?_cons_succ, List.getElem?_cons_zero, Option.some.injEq] at ho; subst ho
            obtain ⟨v12, e41, f12⟩ := xr.1 12 _ rfl (by kernel_rfl) 41 rfl
            cases f12
            clear xr xd
            go_simp
            exact xk _ _ (Below.refl _ _) (eqF_at _ _)
        case hfin =>
          intro xs0 rdw xb xF0
          obtain ⟨rdv0, xs1, rfl, f0, xF1⟩ := FsAll_cons xF0; clear xF0; cases f0
          obtain ⟨rdv1, xs2, rfl, f1, xF2⟩ := FsAll_cons xF1; clear xF1; cases f1
          obtain ⟨rdv2, xs3, rfl, f2, xF3⟩ := FsAll_cons xF2; clear xF2; cases f2
          obtain ⟨rdv3, xs4, rfl, f3, xF4⟩ := FsAll_cons xF3; clear xF3; cases f3
          obtain ⟨rdv4, xs5, rfl, f4, xF5⟩ := FsAll_cons xF4; clear xF4; cases f4
          obtain ⟨rdv5, xs6, rfl, f5, xF6⟩ := FsAll_cons xF5; clear xF5; cases f5
          obtain ⟨rdv6, xs7, rfl, f6, xF7⟩ := FsAll_cons xF6; clear xF6; cases f6
          obtain ⟨rdv7, xs8, rfl, f7, xF8⟩ := FsAll_cons xF7; clear xF7; cases f7
          obtain ⟨rdv8, xs9, rfl, f8, xF9⟩ := FsAll_cons xF8; clear xF8; cases f8
          obtain ⟨rdv9, xs10, rfl, f9, xF10⟩ := FsAll_cons xF9; clear xF9; cases f9
          obtain ⟨rdv10, xs11, rfl, f10, xF11⟩ := FsAll_cons xF10; clear xF10; cases f10
          obtain ⟨rdv11, xs12, rfl, f11, xF12⟩ := FsAll_cons xF11; clear xF11; cases f11
          obtain ⟨rdv12, xs13, rfl, f12, xF13⟩ := FsAll_cons xF12; clear xF12; cases f12
          obtain ⟨rdv13, xs14, rfl, f13, xF14⟩ := FsAll_cons xF13; clear xF13; cases f13
          obtain rfl := FsAll_nil xF14
          clear xF14
          simp only [List.map_cons, List.map_nil, putAll, List.setIfInBounds_toArray, List.set_cons_succ, List.set_cons_zero]
          go_wp2
          go_ret
          exact ⟨rfl, ext_trans (ext_trans hb1 hb2) xb⟩
  · go_enter Try.func5, Try.ntmps5
    go_wp2_with fail
    refine (awake_calls _).mono ?_
    rintro e w1 ⟨rfl, hb1⟩
    go_wp2
    go_ret
    exact ⟨rfl, hb1⟩
end Go.Proofs.Ytddifhkiknnlbaa
