import Derived.Test.YtddifhkiknnlbaaLib
/-! Contracts of layer 1 and 14, part one: numbers. -/
namespace Go.Proofs.Ytddifhkiknnlbaa
open Go.RowKit

/-- A number as it is taken. -/
def cl (n : Int) : Int := if n < 0 then 0 else if n > 1099511627776 then 1099511627776 else n
theorem cl_range (n : Int) : 0 ≤ cl n ∧ cl n ≤ 1099511627776 := by
  unfold cl; split <;> (try split) <;> omega
theorem cl_lt {n : Int} (h : n < 0) : cl n = 0 := by unfold cl; rw [if_pos h]
theorem cl_gt {n : Int} (h : n > 1099511627776) : cl n = 1099511627776 := by unfold cl; rw [if_neg (by omega), if_pos h]
theorem cl_in {n : Int} (h : 0 ≤ n) (h' : n ≤ 1099511627776) : cl n = n := by unfold cl; rw [if_neg (by omega), if_neg (by omega)]
theorem cl_say (n : Int) : (n < 0 ∧ cl n = 0) ∨ (n > 1099511627776 ∧ cl n = 1099511627776) ∨ (0 ≤ n ∧ n ≤ 1099511627776 ∧ cl n = n) := by
  by_cases h : n < 0
  · exact .inl ⟨h, cl_lt h⟩
  · by_cases h' : n > 1099511627776
    · exact .inr (.inl ⟨h', cl_gt h'⟩)
    · exact .inr (.inr ⟨by omega, by omega, cl_in (by omega) (by omega)⟩)
theorem ret_int {k : IntKind} {a b : Int} (h : a = b) : Ending.returned (.int k a) = .returned (.int k b) := by rw [h]

theorem taken_calls (n : Int) (w : World) : Calls Try.prog 21 #[.int .i64 n] w fun e w' => e = .returned (.int .i64 (cl n)) ∧ w = w' := by
  by_cases h : n < 0
  · have e := cl_lt h
    have E := Lib.hid e; clear e
    have g : decide (n < 0) = true := decide_eq_true h
    go_enter Try.func21, Try.ntmps21
    go_wp2
    all_goals (go_ret; exact ⟨ret_int E.out.symm, rfl⟩)
  · by_cases h' : n > 1099511627776
    · have e := cl_gt h'
      have E := Lib.hid e; clear e
      go_enter Try.func21, Try.ntmps21
      go_wp2
      all_goals (go_ret; exact ⟨ret_int E.out.symm, rfl⟩)
    · have e := cl_in (n := n) (by omega) (by omega)
      have E := Lib.hid e; clear e
      go_enter Try.func21, Try.ntmps21
      go_wp2
      all_goals (go_ret; exact ⟨ret_int E.out.symm, rfl⟩)

theorem wr_in {n : Int} (h : -9223372036854775808 ≤ n) (h' : n ≤ 9223372036854775807) : wrap64 n = n := by unfold wrap64; omega
theorem add_calls (a b : Int) (w : World) : Calls Try.prog 14 #[.int .i64 a, .int .i64 b] w fun e w' => e = .returned (.int .i64 (cl (cl a + cl b))) ∧ w = w' := by
  have ha := cl_range a
  have hb := cl_range b
  go_enter Try.func14, Try.ntmps14
  go_wp2_with (go_at_call 21; refine (taken_calls _ _).mono ?_; rintro e w' ⟨rfl, rfl⟩)
  go_ret
  exact ⟨rfl, rfl⟩
/-- What is left. -/
def lf (a b : Int) : Int := if cl a - cl b < 0 then 0 else cl a - cl b
theorem lf_say (a b : Int) : (cl a ≤ cl b ∧ lf a b = 0) ∨ (cl b ≤ cl a ∧ lf a b = cl a - cl b) := by unfold lf; split <;> omega
theorem left_calls (a b : Int) (w : World) : Calls Try.prog 16 #[.int .i64 a, .int .i64 b] w fun e w' => e = .returned (.int .i64 (lf a b)) ∧ w = w' := by
  have ha := cl_range a
  have hb := cl_range b
  go_enter Try.func16, Try.ntmps16
  go_wp2_with (go_at_call 21; refine (taken_calls _ _).mono ?_; rintro e w' ⟨rfl, rfl⟩)
  all_goals (go_ret; exact ⟨ret_int (by have := lf_say a b; omega), rfl⟩)
/-- Whether a number may be. -/
def mayB (n : Int) : Bool := decide (0 ≤ n ∧ n ≤ 1099511627776)
theorem ret_bool {a b : Bool} (h : a = b) : Ending.returned (.bool a) = .returned (.bool b) := by rw [h]
theorem may_calls (n : Int) (w : World) : Calls Try.prog 13 #[.int .i64 n] w fun e w' => e = .returned (.bool (mayB n)) ∧ w = w' := by
  go_enter Try.func13, Try.ntmps13
  go_wp2
  all_goals (go_ret; exact ⟨ret_bool (by unfold mayB; simp; try omega), rfl⟩)

theorem rtaken_calls (n : Int) (w : World) : Calls Try.prog 17 #[.int .i64 n] w fun e w' => e = .returned (.int .i64 (cl n)) ∧ w = w' := by
  go_enter Try.func17, Try.ntmps17
  go_wp2
  all_goals (go_ret; exact ⟨ret_int (by have := cl_say n; omega), rfl⟩)
theorem radd_calls (a b : Int) (w : World) : Calls Try.prog 19 #[.int .i64 a, .int .i64 b] w fun e w' => e = .returned (.int .i64 (cl (cl a + cl b))) ∧ w = w' := by
  have ha := cl_range a
  have hb := cl_range b
  go_enter Try.func19, Try.ntmps19
  go_wp2_with (go_at_call 17; refine (rtaken_calls _ _).mono ?_; rintro e w' ⟨rfl, rfl⟩)
  go_ret
  exact ⟨rfl, rfl⟩
theorem rleft_calls (a b : Int) (w : World) : Calls Try.prog 18 #[.int .i64 a, .int .i64 b] w fun e w' => e = .returned (.int .i64 (lf a b)) ∧ w = w' := by
  have ha := cl_range a
  have hb := cl_range b
  go_enter Try.func18, Try.ntmps18
  go_wp2_with (go_at_call 17; refine (rtaken_calls _ _).mono ?_; rintro e w' ⟨rfl, rfl⟩)
  go_ret
  exact ⟨ret_int (by have := lf_say a b; have := cl_say (cl a - cl b); omega), rfl⟩

/-- The least of a number and more. -/
def least (x : Int) : List Int → Int
  | [] => x
  | y :: l => least (if y < x then y else x) l
def iVs (l : List Int) : List Value := l.map (Value.int .i64)
theorem least_calls (x : Int) (l : List Int) (A : Option Addr) (c : Nat) (w : World) (hr : Row w A (iVs l)) (hl : l.length ≤ 9223372036854775807) :
    Calls Try.prog 15 #[.int .i64 x, .slice A l.length c] w fun e w' => e = .returned (.int .i64 (least x l)) ∧ w = w' := by
  go_enter Try.func15, Try.ntmps15
  go_wp2
  have HE : Hid (least x (l.drop 0) = least x l) := rfl
  go_loop [0, 9] (fun y i => ∃ k : Nat, ∃ z : Int, k ≤ l.length ∧ i = .int .i64 k ∧ y = .int .i64 z ∧ Hid (least z (l.drop k) = least x l)) (fun _ i => l.length - (intOf i).toNat)
  case atStart => exact ⟨0, x, Nat.zero_le _, rfl, rfl, HE⟩
  case round =>
    obtain ⟨k, z, hk, rfl, rfl, H⟩ := hrel
    clear HE
    by_cases hlt : k < l.length
    · obtain ⟨ad, rfl, hc⟩ := hr k (.int .i64 l[k]) (by simp [iVs, hlt])
      have hd : l.drop k = l[k] :: l.drop (k + 1) := List.drop_eq_getElem_cons hlt
      have H2 := H.out
      rw [hd, least] at H2
      have H3 := Lib.hid H2
      clear hr H hd H2
      go_wp2
      all_goals (go_round; case rel => exact ⟨k + 1, _, by omega, by go_num, rfl, by have h9 := H3.out; split at h9 <;> first | exact h9 | omega⟩)
      all_goals (simp [intOf]; omega)
    · have : k = l.length := by omega
      subst this
      have H2 := H.out
      rw [List.drop_length, least] at H2
      have H3 := Lib.hid H2
      clear hr H H2
      go_wp2
      go_ret
      exact ⟨ret_int H3.out, rfl⟩

theorem i_u8 : (Try.prog.info? 5).map (fun i => (i.zero, i.size, i.bytes)) = some (some (.int .u8 0), 1, 1) := by kernel_rfl
/-- bytes.Clone: the same bytes in memory of the call's own; nil stays nil. -/
theorem clone_calls (A : Option Addr) (c : Nat) (l : List UInt8) (w : World) (hA : A = none → l.length = 0 ∧ c = 0) (hr : Row w A (bVs l)) (hb : l.length ≤ 140737488355328) :
    Calls Try.prog 20 #[.slice A l.length c] w fun e w' => ∃ v', e = .returned v' ∧ w'.ownsRow w.heap.size 5 1 v' l.length (bVs l) ∧ Below w.heap.size w w' := by
  have q22 : ∀ (w : World) (a : Option Addr) (n c n' c' : Nat), (binOp .eql 22 (.slice a n c) (.slice none n' c')).run Try.prog w = .ok (.bool a.isNone) w := fun w a n c n' c' => Lib.run_eql_slice_nil w _ _ a n c n' c' Try.underlying22
  cases A with
  | none =>
    obtain ⟨h1, rfl⟩ := hA rfl
    obtain rfl : l = [] := List.eq_nil_of_length_eq_zero h1
    clear h1 hA hr
    go_enter Try.func20, Try.ntmps20
    go_wp2
    go_ret
    exact ⟨_, rfl, World.ownsRow_nil w w.heap.size _ 1, Below.refl _ _⟩
  | some a =>
    have HR := Lib.hid hr
    clear hA hr
    go_enter Try.func20, Try.ntmps20
    go_wp2_with (at_builtin; refine wpList_append_row rfl _ _ 22 rfl w.heap.size 5 1 1 (.int .u8 0) Try.underlying22 i_u8 rfl (by decide) _ _ _ rfl (World.ownsRow_made w #[] 0 (Nat.le_refl _) (Nat.zero_le _) rfl) (some a) l.length c (bVs l) rfl (fun h => by cases h) (by rw [bVs_len, Nat.mul_one]) (HR.out.alloc _) (bVs_one l) (by unfold maxLen; omega) (by omega) (by simp) ?_; intro v' w1 ho hg _)
    go_ret
    rw [Nat.zero_add, List.nil_append] at ho
    exact ⟨_, rfl, ho, below_of_grown (below_alloc0 w _) hg (by simp) (own_ge (World.ownsRow_made w #[] 0 (Nat.le_refl _) (Nat.zero_le _) rfl : (w.alloc (.cells #[] 5)).ownsRow w.heap.size 5 1 _ 0 []))⟩
end Go.Proofs.Ytddifhkiknnlbaa
