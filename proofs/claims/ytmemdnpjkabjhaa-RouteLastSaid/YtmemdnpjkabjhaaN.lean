import Derived.Test.YtmemdnpjkabjhaaM
import Derived.IntWalk
/-! What cells are read as; lists. -/
set_option linter.unusedSimpArgs false
set_option linter.unusedVariables false
namespace Go.Proofs.Ytmemdnpjkabjhaa
open Go.RowKit

/-- Cells that are so. -/
def OkL (shs : List Sh) (x : List PV) : Prop := x.length = shs.length ∧ ∀ (i : Nat) s p, shs[i]? = some s → x[i]? = some p → OkS s p
theorem int_dec {k : IntKind} {p : PV} (h : OkS (.int k) p) : ∃ n, p = .int k n ∧ (Lit.int k n).wf = true := by cases h with | int _ n h => exact ⟨n, rfl, h⟩
theorem i64_dec {p : PV} (h : OkS (.int .i64) p) : ∃ n, p = .int .i64 n ∧ -9223372036854775808 ≤ n ∧ n ≤ 9223372036854775807 := by
  cases h with | int _ n h => exact ⟨n, rfl, by simp [Lit.wf, IntKind.bits, IntKind.signed, IntKind.min, IntKind.max] at h; omega⟩
theorem u8_dec {p : PV} (h : OkS (.int .u8) p) : ∃ c : UInt8, p = .int .u8 c.toNat := by
  cases h with | int _ n h =>
    have : 0 ≤ n ∧ n < 256 := by simp [Lit.wf, IntKind.bits, IntKind.signed, IntKind.min, IntKind.max] at h; omega
    refine ⟨UInt8.ofNat n.toNat, ?_⟩
    have e : (UInt8.ofNat n.toNat).toNat = n.toNat := by simp; omega
    rw [e]
    congr 1
    omega
theorem bool_dec {p : PV} (h : OkS .bool p) : ∃ b, p = .bool b := by cases h with | bool b => exact ⟨b, rfl⟩
theorem str_dec {p : PV} (h : OkS .str p) : ∃ l, p = .str l ∧ l.length ≤ 9223372036854775807 := by cases h with | str l h => exact ⟨l, rfl, h⟩
theorem list_choose {α : Type} {enc : α → List PV} {ok : α → Prop} : ∀ (xs : List (List PV)), (∀ x ∈ xs, ∃ a, x = enc a ∧ ok a) → ∃ l : List α, xs = l.map enc ∧ ∀ a ∈ l, ok a
  | [], _ => ⟨[], rfl, fun a h => by cases h⟩
  | x :: xs, h => by
    obtain ⟨a, rfl, ha⟩ := h x (by simp)
    obtain ⟨l, rfl, hl⟩ := list_choose xs (fun y hy => h y (by simp [hy]))
    exact ⟨a :: l, rfl, fun b hb => (List.mem_cons.1 hb).elim (fun e => e ▸ ha) (fun h => hl b h)⟩
theorem sl_dec {α : Type} {shs : List Sh} {p : PV} (enc : α → List PV) (ok : α → Prop) (hd : ∀ x, OkL shs x → ∃ a, x = enc a ∧ ok a) (h : OkS (.sl shs) p) : ∃ l : List α, p = .sl 1 (l.map enc) ∧ l.length ≤ 9223372036854775807 ∧ ∀ a ∈ l, ok a := by
  cases h with | sl _ xs hm hk h =>
    obtain ⟨l, rfl, hl⟩ := list_choose xs (fun x hx => hd x ⟨hk x hx, h x hx⟩)
    exact ⟨l, rfl, by simp at hm; exact hm, hl⟩
theorem one_dec {s : Sh} {x : List PV} (h : OkL [s] x) : ∃ p, x = [p] ∧ OkS s p := by
  obtain ⟨h1, h2⟩ := h
  obtain ⟨p, rfl⟩ := List.length_eq_one_iff.1 h1
  exact ⟨p, rfl, h2 0 s p rfl rfl⟩
theorem byte_dec {x : List PV} (h : OkL [.int .u8] x) : ∃ c : UInt8, x = byteE c ∧ True := by
  obtain ⟨p, rfl, h1⟩ := one_dec h
  obtain ⟨c, rfl⟩ := u8_dec h1
  exact ⟨c, rfl, trivial⟩
theorem bytes_dec {p : PV} (h : OkS (.sl [.int .u8]) p) : ∃ l : List UInt8, p = .sl 1 (l.map byteE) ∧ l.length ≤ 9223372036854775807 := by
  obtain ⟨l, rfl, h, _⟩ := sl_dec byteE (fun _ => True) (fun x hx => byte_dec hx) h
  exact ⟨l, rfl, h⟩
/-- A chunk of bytes as a cell; a text as one. -/
def chunkE (b : List UInt8) : List PV := [.sl 1 (b.map byteE)]
def textE (b : List UInt8) : List PV := [.str b]
def numE (n : Int) : List PV := [.int .i64 n]
theorem chunks_dec {p : PV} (h : OkS (.sl [.sl [.int .u8]]) p) : ∃ l : List (List UInt8), p = .sl 1 (l.map chunkE) ∧ l.length ≤ 9223372036854775807 ∧ ∀ a ∈ l, a.length ≤ 9223372036854775807 :=
  sl_dec chunkE _ (fun x hx => by
    obtain ⟨p, rfl, h1⟩ := one_dec hx
    obtain ⟨l, rfl, h2⟩ := bytes_dec h1
    exact ⟨l, rfl, h2⟩) h
theorem texts_dec {p : PV} (h : OkS (.sl [.str]) p) : ∃ l : List (List UInt8), p = .sl 1 (l.map textE) ∧ l.length ≤ 9223372036854775807 ∧ ∀ a ∈ l, a.length ≤ 9223372036854775807 :=
  sl_dec textE _ (fun x hx => by
    obtain ⟨p, rfl, h1⟩ := one_dec hx
    obtain ⟨l, rfl, h2⟩ := str_dec h1
    exact ⟨l, rfl, h2⟩) h
theorem nums_dec {p : PV} (h : OkS (.sl [.int .i64]) p) : ∃ l : List Int, p = .sl 1 (l.map numE) ∧ l.length ≤ 9223372036854775807 ∧ ∀ a ∈ l, -9223372036854775808 ≤ a ∧ a ≤ 9223372036854775807 :=
  sl_dec numE _ (fun x hx => by
    obtain ⟨p, rfl, h1⟩ := one_dec hx
    obtain ⟨l, rfl, h2⟩ := i64_dec h1
    exact ⟨l, rfl, h2⟩) h
theorem okv_one {P : Program} {m : Nat} {t : TypeId} {s : Sh} {q : PV} (hs : shOf P m t = some [s]) (hu : (match P.underlying t with | some (.struct _) | some (.array _ _) => false | _ => true) = true) (h : OkV P m t q) : OkS s q := by
  obtain ⟨l, hl, h⟩ := h
  rw [hs] at hl
  cases hl
  split at h
  · rename_i hh; rw [hh] at hu; cases hu
  · rename_i hh; rw [hh] at hu; cases hu
  · obtain ⟨s', h1, h2⟩ := h
    cases h1
    exact h2
theorem okv_agg {P : Program} {m : Nat} {t : TypeId} {l : List Sh} {q : PV} (hs : shOf P m t = some l) (hu : (match P.underlying t with | some (.struct _) | some (.array _ _) => true | _ => false) = true) (h : OkV P m t q) : ∃ x, q = .agg x ∧ OkL l x := by
  obtain ⟨l', hl, h⟩ := h
  rw [hs] at hl
  cases hl
  split at h
  · obtain ⟨ps, h1, h2, h3⟩ := h; exact ⟨ps, h1, h2, h3⟩
  · obtain ⟨ps, h1, h2, h3⟩ := h; exact ⟨ps, h1, h2, h3⟩
  · rename_i h1 h2
    split at hu
    · rename_i hh; exact absurd hh (h1 _)
    · rename_i hh; exact absurd hh (h2 _ _)
    · cases hu

theorem okl_cons {s : Sh} {ss : List Sh} {x : List PV} (h : OkL (s :: ss) x) : ∃ p y, x = p :: y ∧ OkS s p ∧ OkL ss y := by
  obtain ⟨h1, h2⟩ := h
  cases x with
  | nil => simp at h1
  | cons p y => exact ⟨p, y, rfl, h2 0 s p rfl rfl, by simpa using h1, fun i s' p' hs hp => h2 (i + 1) s' p' (by simpa using hs) (by simpa using hp)⟩
theorem okl_nil {x : List PV} (h : OkL [] x) : x = [] := by
  obtain ⟨h1, _⟩ := h
  exact List.eq_nil_of_length_eq_zero (by simpa using h1)
/-- Counting on. -/
theorem wrap_succ {k : Nat} (h : (k : Int) < 9223372036854775807) : IntKind.i64.wrap ((k : Int) + 1) = ((k + 1 : Nat) : Int) := by
  rw [IntWalk.i64_in _ (by omega)]; omega
theorem wrap_add {a b : Nat} (h : (a : Int) + b ≤ 9223372036854775807) : IntKind.i64.wrap ((a : Int) + b) = ((a + b : Nat) : Int) := by
  rw [IntWalk.i64_in _ (by omega)]; omega
theorem wrap_pred {k : Nat} (h : (k : Int) ≤ 9223372036854775807) (h0 : 0 < k) : IntKind.i64.wrap ((k : Int) - 1) = ((k - 1 : Nat) : Int) := by
  rw [IntWalk.i64_in _ (by omega)]; omega
theorem wrap_minus : IntKind.i64.wrap (((0 : Nat) : Int) - 1) = -1 := IntWalk.i64_in _ (by omega)
theorem drop_eq {α : Type} {l : List α} {k : Nat} (d : α) (h : (k : Int) < l.length) : l.drop k = l.getD k d :: l.drop (k + 1) := by
  have hk : k < l.length := by omega
  rw [List.drop_eq_getElem_cons hk, List.getD_eq_getElem?_getD, List.getElem?_eq_getElem hk]
  rfl
theorem drop_end {α : Type} {l : List α} {k : Nat} (h : (l.length : Int) ≤ k) : l.drop k = [] := List.drop_eq_nil_of_le (by omega)
theorem take_succ {α : Type} {l : List α} {k : Nat} (d : α) (h : (k : Int) < l.length) : l.take (k + 1) = l.take k ++ [l.getD k d] := by
  have hk : k < l.length := by omega
  rw [List.take_add_one, List.getElem?_eq_getElem hk, List.getD_eq_getElem?_getD, List.getElem?_eq_getElem hk]
  rfl
theorem getD_map' {α β : Type} {l : List α} {k : Nat} (f : α → β) (d : α) (e : β) (h : (k : Int) < l.length) : (l.map f).getD k e = f (l.getD k d) := by
  have hk : k < l.length := by omega
  simp [List.getD_eq_getElem?_getD, hk]
/-- Every one is so, told from some place on. -/
theorem all_no {α : Type} {p : α → Bool} {s : List α} {k : Nat} (d : α) (hc : s.all p = (s.drop k).all p) (h : (k : Int) < s.length) (hp : p (s.getD k d) = false) : s.all p = false := by
  rw [hc, drop_eq d h, List.all_cons, hp]; rfl
theorem all_go {α : Type} {p : α → Bool} {s : List α} {k : Nat} (d : α) (hc : s.all p = (s.drop k).all p) (h : (k : Int) < s.length) (hp : p (s.getD k d) = true) : s.all p = (s.drop (k + 1)).all p := by
  rw [hc, drop_eq d h, List.all_cons, hp]; rfl
theorem all_end {α : Type} {p : α → Bool} {s : List α} {k : Nat} (hc : s.all p = (s.drop k).all p) (h : (s.length : Int) ≤ k) : s.all p = true := by
  rw [hc, drop_end h]; rfl
theorem bool_and_f {a b : Prop} [Decidable a] [Decidable b] (h : ¬ a ∨ ¬ b) : (decide a && decide b) = false := by
  rcases h with h | h <;> simp [h]
theorem bool_and_t {a b : Prop} [Decidable a] [Decidable b] (h1 : a) (h2 : b) : (decide a && decide b) = true := by simp [h1, h2]
end Go.Proofs.Ytmemdnpjkabjhaa
