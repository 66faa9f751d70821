import Derived.Test.YtddifhkiknnlbaaA
/-! Contracts of layer 14: Cut, Take and the references. -/
namespace Go.Proofs.Ytddifhkiknnlbaa
open Go.RowKit

/-- How many bytes are cut. -/
def cutN (m : Int) (n : Nat) : Nat := if m < 0 then 0 else if m < n then m.toNat else n
theorem cutN_le (m : Int) (n : Nat) : cutN m n ≤ n := by unfold cutN; split <;> (try split) <;> omega
theorem cutN_neg {m : Int} {n : Nat} (h : m < 0) : least 0 [(n : Int)] = (cutN m n : Int) := by
  have : cutN m n = 0 := by unfold cutN; rw [if_pos h]
  rw [this]; unfold least; rw [if_neg (by omega)]; rfl
theorem cutN_pos {m : Int} {n : Nat} (h : ¬ m < 0) : least m [(n : Int)] = (cutN m n : Int) := by
  unfold least least cutN; rw [if_neg h]; split <;> split <;> omega
theorem clone_n (A : Option Addr) (n c : Nat) (l : List UInt8) (w : World) (hn : l.length = n) (hA : A = none → n = 0 ∧ c = 0) (hr : Row w A (bVs l)) (hb : n ≤ 140737488355328) :
    Calls Try.prog 20 #[.slice A n c] w fun e w' => ∃ v', e = .returned v' ∧ w'.ownsRow w.heap.size 5 1 v' n (bVs l) ∧ Below w.heap.size w w' := by
  subst hn; exact clone_calls A c l w hA hr hb
theorem cut_calls (A : Option Addr) (c : Nat) (l : List UInt8) (m : Int) (w : World) (hA : A = none → l.length = 0 ∧ c = 0) (hc : l.length ≤ c) (hr : Row w A (bVs l)) (hb : l.length ≤ 140737488355328) :
    Calls Try.prog 11 #[.slice A l.length c, .int .i64 m] w fun e w' => ∃ v', e = .returned v' ∧ w'.ownsRow w.heap.size 5 1 v' (cutN m l.length) (bVs (l.take (cutN m l.length))) ∧ Below w.heap.size w w' := by
  have hk := cutN_le m l.length
  have HR := Lib.hid hr
  clear hr
  have HA := Lib.hid hA; clear hA
  by_cases hn : m < 0
  · have HM := Lib.hid (cutN_neg (n := l.length) hn)
    go_enter Try.func11, Try.ntmps11
    go_wp2_with fail
    refine (least_calls 0 [(l.length : Int)] _ 1 _ (row_new _ [_] _) (by simp)).mono ?_
    rintro e w' ⟨rfl, rfl⟩
    rw [HM.out]
    generalize hK : cutN m l.length = K at *
    have HK := Lib.hid hK
    clear hn HM hK
    go_wp2_with fail
    refine (clone_n A K c (l.take K) _ (by simp; omega) (fun h => ⟨by have := (HA.out h).1; omega, (HA.out h).2⟩) (by rw [← bVs_take]; exact (HR.out.alloc _).take K) (by omega)).mono ?_
    rintro e w1 ⟨v', rfl, ho, hb⟩
    go_wp2
    go_ret
    obtain rfl := HK.out
    exact ⟨_, rfl, own_mono ho (below_alloc0 w _).size, ext_trans (below_alloc0 w _) hb⟩
  · have HM := Lib.hid (cutN_pos (n := l.length) hn)
    go_enter Try.func11, Try.ntmps11
    go_wp2_with fail
    refine (least_calls m [(l.length : Int)] _ 1 _ (row_new _ [_] _) (by simp)).mono ?_
    rintro e w' ⟨rfl, rfl⟩
    rw [HM.out]
    generalize hK : cutN m l.length = K at *
    have HK := Lib.hid hK
    clear hn HM hK
    go_wp2_with fail
    refine (clone_n A K c (l.take K) _ (by simp; omega) (fun h => ⟨by have := (HA.out h).1; omega, (HA.out h).2⟩) (by rw [← bVs_take]; exact (HR.out.alloc _).take K) (by omega)).mono ?_
    rintro e w1 ⟨v', rfl, ho, hb⟩
    go_wp2
    go_ret
    obtain rfl := HK.out
    exact ⟨_, rfl, own_mono ho (below_alloc0 w _).size, ext_trans (below_alloc0 w _) hb⟩
/-- What may be taken. -/
def tk (each used quota all n : Int) : Int := least (cl (cl n + cl 0)) [lf each used, lf quota all]
theorem tk_say (each used quota all n : Int) : 0 ≤ tk each used quota all n ∧ tk each used quota all n ≤ cl n ∧ tk each used quota all n ≤ lf each used ∧ tk each used quota all n ≤ lf quota all ∧ (tk each used quota all n = cl n ∨ tk each used quota all n = lf each used ∨ tk each used quota all n = lf quota all) := by
  have h0 : cl 0 = 0 := cl_in (by omega) (by omega)
  have h1 := cl_range n; have h2 := cl_range (cl n + cl 0); have h3 := cl_say (cl n + cl 0)
  have h4 := lf_say each used; have h5 := lf_say quota all
  have a1 := cl_range each; have a2 := cl_range used; have a3 := cl_range quota; have a4 := cl_range all
  unfold tk least least least
  repeat' split
  all_goals omega
theorem ret4 {a b c a' b' c' : Int} {d d' : Bool} (h1 : a = a') (h2 : b = b') (h3 : c = c') (h4 : d = d') : Ending.returned (.tuple #[.int .i64 a, .int .i64 b, .int .i64 c, .bool d]) = .returned (.tuple #[.int .i64 a', .int .i64 b', .int .i64 c', .bool d']) := by rw [h1, h2, h3, h4]
theorem take_calls (each used quota all n : Int) (w : World) :
    Calls Try.prog 9 #[.int .i64 each, .int .i64 used, .int .i64 quota, .int .i64 all, .int .i64 n] w fun e w' =>
      e = .returned (.tuple #[.int .i64 (tk each used quota all n), .int .i64 (cl (cl used + cl (tk each used quota all n))), .int .i64 (cl (cl all + cl (tk each used quota all n))), .bool (decide (tk each used quota all n < cl n))]) ∧ Below w.heap.size w w' := by
  have HT : Hid (least (cl (cl n + cl 0)) [lf each used, lf quota all] = tk each used quota all n) := rfl
  go_enter Try.func9, Try.ntmps9
  go_wp2_with (first | (go_at_call 14; refine (add_calls _ _ _).mono ?_; rintro e w' ⟨rfl, rfl⟩) | (go_at_call 16; refine (left_calls _ _ _).mono ?_; rintro e w' ⟨rfl, rfl⟩))
  refine (least_calls _ [_, _] _ 2 _ (row_new _ [_, _] _) (by simp)).mono ?_
  rintro e w' ⟨rfl, rfl⟩
  rw [HT.out]
  have hcl : Hid (cl (cl n + cl 0) = cl n) := by
    have h0 : cl 0 = 0 := cl_in (by omega) (by omega)
    have h1 := cl_range n
    show cl (cl n + cl 0) = cl n
    rw [h0, Int.add_zero]; exact cl_in (by omega) (by omega)
  rw [hcl.out]
  generalize hK : tk each used quota all n = K at *
  have HK := Lib.hid hK
  clear HT hK hcl
  go_wp2_with (first | (go_at_call 14; refine (add_calls _ _ _).mono ?_; rintro e w' ⟨rfl, rfl⟩) | (go_at_call 16; refine (left_calls _ _ _).mono ?_; rintro e w' ⟨rfl, rfl⟩))
  refine bodyPost_ret (results_tmp4 rfl _ _ _) rfl ?_
  obtain rfl := HK.out
  exact ⟨rfl, below_alloc0 w _⟩
theorem retTk {a K used all n : Int} {d : Bool} (h : a = K) (h' : d = decide (K < cl n)) : Ending.returned (.tuple #[.int .i64 a, .int .i64 (cl (cl used + cl a)), .int .i64 (cl (cl all + cl a)), .bool d]) = .returned (.tuple #[.int .i64 K, .int .i64 (cl (cl used + cl K)), .int .i64 (cl (cl all + cl K)), .bool (decide (K < cl n))]) := by rw [h, h']
theorem rtake_calls (each used quota all n : Int) (w : World) :
    Calls Try.prog 10 #[.int .i64 each, .int .i64 used, .int .i64 quota, .int .i64 all, .int .i64 n] w fun e w' =>
      e = .returned (.tuple #[.int .i64 (tk each used quota all n), .int .i64 (cl (cl used + cl (tk each used quota all n))), .int .i64 (cl (cl all + cl (tk each used quota all n))), .bool (decide (tk each used quota all n < cl n))]) ∧ w = w' := by
  have HT := tk_say each used quota all n
  go_enter Try.func10, Try.ntmps10
  go_wp2_with (first | (go_at_call 17; refine (rtaken_calls _ _).mono ?_; rintro e w' ⟨rfl, rfl⟩) | (go_at_call 18; refine (rleft_calls _ _ _).mono ?_; rintro e w' ⟨rfl, rfl⟩) | (go_at_call 19; refine (radd_calls _ _ _).mono ?_; rintro e w' ⟨rfl, rfl⟩))
  all_goals
    refine bodyPost_ret (results_tmp4 rfl _ _ _) rfl ?_
    refine ⟨?_, rfl⟩
  all_goals (refine retTk (K := tk each used quota all n) ?_ ?_; omega)
  all_goals (symm; first | (rw [decide_eq_true_eq]; omega) | (rw [decide_eq_false_iff_not]; omega) | (rw [decide_eq_decide]; omega))
theorem rcut_calls (A : Option Addr) (c : Nat) (l : List UInt8) (m : Int) (w : World) (hA : A = none → l.length = 0 ∧ c = 0) (hr : Row w A (bVs l)) (hb : l.length ≤ 140737488355328) :
    Calls Try.prog 12 #[.slice A l.length c, .int .i64 m] w fun e w' => ∃ v', e = .returned v' ∧ w'.ownsRow w.heap.size 5 1 v' (cutN m l.length) (bVs (l.take (cutN m l.length))) ∧ Below w.heap.size w w' := by
  have HR := Lib.hid hr
  clear hr
  go_enter Try.func12, Try.ntmps12
  go_wp2_with fail
  go_loopw [5, 6] (fun v i wr => ∃ k : Nat, k ≤ cutN m l.length ∧ i = .int .i64 k ∧ Hid (wr.ownsRow w.heap.size 5 1 v k (bVs (l.take k))) ∧ Hid (Below w.heap.size w wr)) (fun _ i _ => l.length - (intOf i).toNat)
  case atStart => exact ⟨0, Nat.zero_le _, rfl, World.ownsRow_nil w _ _ 1, Below.refl _ _⟩
  case round =>
    obtain ⟨k, hk, rfl, ho, hbl⟩ := hrel
    have hk2 := cutN_le m l.length
    by_cases hlt : k < cutN m l.length
    · have hm : (k : Int) < m := by unfold cutN at hlt; split at hlt <;> (try split at hlt) <;> omega
      have hkl : k < l.length := by omega
      obtain ⟨ad, rfl, hc⟩ := HR.out k (bV l[k]) (by rw [bVs_get, List.getElem?_eq_getElem hkl]; rfl)
      have hc2 : wr.cell? (ad.add k) = some (.int .u8 (l[k].toNat : Int)) := cell_ext (hbl.out.mono (Nat.le_refl _)) hc
      have hown := ho.out
      have hsz : w.heap.size ≤ wr.heap.size := hbl.out.size
      have htk : l.take (k + 1) = l.take k ++ [l[k]] := List.take_succ_eq_append_getElem hkl
      have HTK := Lib.hid htk
      clear htk hc
      go_wp2_with (at_builtin; refine wpList_append_row rfl _ _ 22 rfl w.heap.size 5 1 1 (.int .u8 0) Try.underlying22 i_u8 rfl (by decide) _ k _ rfl (hown.alloc _) (some ⟨wr.heap.size, 0, none⟩) 1 1 [.int .u8 (l[k].toNat : Int)] rfl (fun h => by cases h) rfl (row_new _ [_] _) (by intro u hu; simp at hu; subst hu; rfl) (by unfold maxLen; omega) (by omega) (by simp; omega) ?_; intro v' w1 hown1 hg1 _)
      have hb1 := below_of_grown (hbl.out.alloc hsz _) hg1 (by simp; omega) (own_ge hown)
      go_roundw
      case rel => exact ⟨k + 1, by omega, by go_num, by rw [HTK.out, bVs_app]; exact hown1, hb1⟩
      case measure => simp [intOf]; omega
    · obtain rfl : k = cutN m l.length := by omega
      have hd : ¬ ((cutN m l.length : Int) < l.length) ∨ ((cutN m l.length : Int) < l.length ∧ ¬ ((cutN m l.length : Int) < m)) := by unfold cutN; split <;> (try split) <;> omega
      generalize hK : cutN m l.length = K at *
      have HK := Lib.hid hK
      clear hK
      rcases hd with hd | ⟨hd1, hd2⟩
      · go_wp2
        go_ret
        obtain rfl := HK.out
        exact ⟨_, rfl, ho.out, hbl.out⟩
      · go_wp2
        go_ret
        obtain rfl := HK.out
        exact ⟨_, rfl, ho.out, hbl.out⟩
end Go.Proofs.Ytddifhkiknnlbaa
