import Derived.Test.YtgagnohelibaoaaDoorM
import Derived.IntWalk
/-! What cells are read as; lists. -/
set_option linter.unusedSimpArgs false
set_option linter.unusedVariables false
namespace Go.Proofs.YtgagnohelibaoaaDoor
open Go.RowKit

/-- Cells that are so. -/
def OkL (shs : List Sh) (x : List PV) : Prop := x.length = shs.length ∧ ∀ (i : Nat) s p, shs[i]? = some s → x[i]? = some p → OkS s p
theorem int_dec {k : IntKind} {p : PV} (h : OkS (.int k) p) : ∃ n, p = .int k n ∧ (Lit.int k n).wf = true := by cases h with | int _ n h => exact ⟨n, rfl, h⟩
theorem i64_dec {p : PV} (h : OkS (.int .i64) p) : ∃ n, p = .int .i64 n ∧ -9223372036854775808 ≤ n ∧ n ≤ 9223372036854775807 := by
  cases h with | int _ n h => exact ⟨n, rfl, by simp [Lit.wf, IntKind.bits, IntKind.signed, IntKind.min, IntKind.max] at h; omega⟩
theorem u8_dec {p : PV} (h : OkS (.int .u8) p) : ∃ c : UInt8, p = .int .u8 c.toNat := by
  cases h with | int _ n h =>
    have : 0 ≤ n ∧ n < 256 := by simp [Lit.wf, IntKind.bits, IntKind.signed, IntKind.min, IntKind.max] at h; omega
    refine ⟨UInt8.ofNat n.toNat, ?_⟩
    have e : (UInt8.ofNat n.toNat).toNat = n.toNat := by simp; omega
    rw [e]
    congr 1
    omega
theorem bool_dec {p : PV} (h : OkS .bool p) : ∃ b, p = .bool b := by cases h with | bool b => exact ⟨b, rfl⟩
theorem str_dec {p : PV} (h : OkS .str p) : ∃ l, p = .str l ∧ l.length ≤ 9223372036854775807 := by cases h with | str l h => exact ⟨l, rfl, h⟩
theorem list_choose {α : Type} {enc : α → List PV} {ok : α → Prop} : ∀ (xs : List (List PV)), (∀ x ∈ xs, ∃ a, x = enc a ∧ ok a) → ∃ l : List α, xs = l.map enc ∧ ∀ a ∈ l, ok a
  | [], _ => ⟨[], rfl, fun a h => by cases h⟩
  | x :: xs, h => by
    obtain ⟨a, rfl, ha⟩ := h x (by simp)
    obtain ⟨l, rfl, hl⟩ := list_choose xs (fun y hy => h y (by simp [hy]))
    exact ⟨a :: l, rfl, fun b hb => (List.mem_cons.1 hb).elim (fun e => e ▸ ha) (fun h => hl b h)⟩
theorem sl_dec {α : Type} {shs : List Sh} {p : PV} (enc : α → List PV) (ok : α → Prop) (hd : ∀ x, OkL shs x → ∃ a, x = enc a ∧ ok a) (h : OkS (.sl shs) p) : ∃ l : List α, p = .sl 1 (l.map enc) ∧ l.length ≤ 9223372036854775807 ∧ ∀ a ∈ l, ok a := by
  cases h with | sl _ xs hm hk h =>
    obtain ⟨l, rfl, hl⟩ := list_choose xs (fun x hx => hd x ⟨hk x hx, h x hx⟩)
    exact ⟨l, rfl, by simp at hm; exact hm, hl⟩
theorem one_dec {s : Sh} {x : List PV} (h : OkL [s] x) : ∃ p, x = [p] ∧ OkS s p := by
  obtain ⟨h1, h2⟩ := h
  obtain ⟨p, rfl⟩ := List.length_eq_one_iff.1 h1
  exact ⟨p, rfl, h2 0 s p rfl rfl⟩
theorem byte_dec {x : List PV} (h : OkL [.int .u8] x) : ∃ c : UInt8, x = byteE c ∧ True := by
  obtain ⟨p, rfl, h1⟩ := one_dec h
  obtain ⟨c, rfl⟩ := u8_dec h1
  exact ⟨c, rfl, trivial⟩
theorem bytes_dec {p : PV} (h : OkS (.sl [.int .u8]) p) : ∃ l : List UInt8, p = .sl 1 (l.map byteE) ∧ l.length ≤ 9223372036854775807 := by
  obtain ⟨l, rfl, h, _⟩ := sl_dec byteE (fun _ => True) (fun x hx => byte_dec hx) h
  exact ⟨l, rfl, h⟩
/-- A chunk of bytes as a cell; a text as one. -/
def chunkE (b : List UInt8) : List PV := [.sl 1 (b.map byteE)]
def textE (b : List UInt8) : List PV := [.str b]
def numE (n : Int) : List PV := [.int .i64 n]
theorem chunks_dec {p : PV} (h : OkS (.sl [.sl [.int .u8]]) p) : ∃ l : List (List UInt8), p = .sl 1 (l.map chunkE) ∧ l.length ≤ 9223372036854775807 ∧ ∀ a ∈ l, a.length ≤ 9223372036854775807 :=
  sl_dec chunkE _ (fun x hx => by
    obtain ⟨p, rfl, h1⟩ := one_dec hx
    obtain ⟨l, rfl, h2⟩ := bytes_dec h1
    exact ⟨l, rfl, h2⟩) h
theorem texts_dec {p : PV} (h : OkS (.sl [.str]) p) : ∃ l : List (List UInt8), p = .sl 1 (l.map textE) ∧ l.length ≤ 9223372036854775807 ∧ ∀ a ∈ l, a.length ≤ 9223372036854775807 :=
  sl_dec textE _ (fun x hx => by
    obtain ⟨p, rfl, h1⟩ := one_dec hx
    obtain ⟨l, rfl, h2⟩ := str_dec h1
    exact ⟨l, rfl, h2⟩) h
theorem nums_dec {p : PV} (h : OkS (.sl [.int .i64]) p) : ∃ l : List Int, p = .sl 1 (l.map numE) ∧ l.length ≤ 9223372036854775807 ∧ ∀ a ∈ l, -9223372036854775808 ≤ a ∧ a ≤ 9223372036854775807 :=
  sl_dec numE _ (fun x hx => by
    obtain ⟨p, rfl, h1⟩ := one_dec hx
    obtain ⟨l, rfl, h2⟩ := i64_dec h1
    exact ⟨l, rfl, h2⟩) h
theorem okv_one {P : Program} {m : Nat} {t : TypeId} {s : Sh} {q : PV} (hs : shOf P m t = some [s]) (hu : (match P.underlying t with | some (.struct _) | some (.array _ _) => false | _ => true) = true) (h : OkV P m t q) : OkS s q := by
  obtain ⟨l, hl, h⟩ := h
  rw [hs] at hl
  cases hl
  split at h
  · rename_i hh; rw [hh] at hu; cases hu
  · rename_i hh; rw [hh] at hu; cases hu
  · obtain ⟨s', h1, h2⟩ := h
    cases h1
    exact h2
theorem okv_agg {P : Program} {m : Nat} {t : TypeId} {l : List Sh} {q : PV} (hs : shOf P m t = some l) (hu : (match P.underlying t with | some (.struct _) | some (.array _ _) => true | _ => false) = true) (h : OkV P m t q) : ∃ x, q = .agg x ∧ OkL l x := by
  obtain ⟨l', hl, h⟩ := h
  rw [hs] at hl
  cases hl
  split at h
  · obtain ⟨ps, h1, h2, h3⟩ := h; exact ⟨ps, h1, h2, h3⟩
  · obtain ⟨ps, h1, h2, h3⟩ := h; exact ⟨ps, h1, h2, h3⟩
  · rename_i h1 h2
    split at hu
    · rename_i hh; exact absurd hh (h1 _)
    · rename_i hh; exact absurd hh (h2 _ _)
    · cases hu

theorem okl_cons {s : Sh} {ss : List Sh} {x : List PV} (h : OkL (s :: ss) x) : ∃ p y, x = p :: y ∧ OkS s p ∧ OkL ss y := by
  obtain ⟨h1, h2⟩ := h
  cases x with
  | nil => simp at h1
  | cons p y => exact ⟨p, y, rfl, h2 0 s p rfl rfl, by simpa using h1, fun i s' p' hs hp => h2 (i + 1) s' p' (by simpa using hs) (by simpa using hp)⟩
theorem okl_nil {x : List PV} (h : OkL [] x) : x = [] := by
  obtain ⟨h1, _⟩ := h
  exact List.eq_nil_of_length_eq_zero (by simpa using h1)
/-- A nil slice in a slot may be told as one with the right to append. -/
theorem Sim.ghost {nt : Nat} {w0 : World} {S0 : Addr → Prop} {E : List (PV × Value)} {S : Addr → Prop} {μ : Nat → Value} {T : Nat → PV} {H : Nat → Option HObj} {N : Nat} {a : Act} {w : World} (h : Sim nt w0 S0 E S μ ⟨T, H, belowN N⟩ a w) (d e k : Nat) (hd : T d = .sl 0 []) :
    Sim nt w0 S0 E S (upd μ N (.slice none 0 0)) ⟨upd T d (.sl N []), upd H N (some (.tok e k 0)), belowN (N + 1)⟩ a w := by
  have hN : ¬ belowN N N := by unfold belowN; omega
  have h2 : 2 ≤ N := h.two N hN
  have hD : ∀ m, belowN N m → belowN (N + 1) m := fun m hm => Nat.lt_succ_of_lt hm
  have hμ : ∀ m, belowN N m → upd μ N (.slice none 0 0) m = μ m := fun m hm => upd_ne _ _ (fun e => hN (e ▸ hm))
  have mono : ∀ {p v}, Rel S μ (belowN N) w p v → Rel S (upd μ N (.slice none 0 0)) (belowN (N + 1)) w p v := fun hr => hr.mono (fun _ h => h) (fun _ _ => rfl) hD hμ
  refine ⟨h.defers, h.size, fun i => ?_, fun p hp => mono (h.extra p hp), fun nm o ho => ?_, fun nm nm' o o' ho ho' hne g hg => ?_, fun nm hn => ?_, h.below, h.s0, h.slt, fun m hm => hD m (h.low m hm), h.good⟩
  · show Rel _ _ _ w (upd T d (.sl N []) i) _
    have hi := h.tmps i
    by_cases e : i = d
    · subst e
      rw [upd_same]
      change Rel S μ (belowN N) w (T i) _ at hi
      rw [hd] at hi
      generalize a.tmps.getD i undef = v at hi
      refine .tok N [] v h2 (Nat.lt_succ_self N) ?_ (rel_sl hi)
      rw [upd_same]
      cases hi with
      | c hc => cases hc with
        | sl _ _ A c k u ht h0 hn hc hm hk hone hcell hrel =>
          have e1 := h0 rfl
          have e2 := hn e1
          rw [e1, e2.2]
          rfl
      | tok _ _ _ h2' _ _ _ => omega
    · rw [upd_ne _ _ e]
      exact mono hi
  · change upd H N (some (.tok e k 0)) nm = some o at ho
    by_cases en : nm = N
    · subst en
      rw [upd_same] at ho
      cases ho
      refine ⟨[], h2, ?_, fun a ha => ?_⟩
      · rw [upd_same]
        exact World.ownsRow_nil w w0.heap.size e k
      · rw [upd_same] at ha
        cases ha
    · rw [upd_ne _ _ en] at ho
      exact (h.heap nm o ho).keep (fun _ h => h) (fun _ _ => rfl) hD hμ (h.lt ho) (Nat.le_refl _) (fun g _ => ⟨rfl, fun _ _ h => h⟩)
  · change upd H N (some (.tok e k 0)) nm = some o at ho
    change upd H N (some (.tok e k 0)) nm' = some o' at ho'
    by_cases en : nm = N
    · subst en
      rw [upd_same] at hg
      cases hg
    · rw [upd_ne _ _ en] at ho hg
      by_cases en' : nm' = N
      · subst en'
        rw [upd_same]
        intro hh
        cases hh
      · rw [upd_ne _ _ en'] at ho' ⊢
        exact h.apart nm nm' o o' ho ho' hne g hg
  · change upd H N (some (.tok e k 0)) nm = none
    have h1 : ¬ belowN N nm := fun h' => hn (hD nm h')
    have en : nm ≠ N := fun e' => hn (by subst e'; exact Nat.lt_succ_self nm)
    rw [upd_ne _ _ en]
    exact h.fresh nm h1
theorem ghostD {P : Program} {nt : Nat} {c : Code} {Q : Post} {T : Nat → PV} {H : Nat → Option HObj} {N : Nat} {d0 : Dep (c, Q, T, H)} (d e k : Nat) (hw : wrC c d = true) (hT : T d = .sl 0 []) (h : AWD P nt c Q (upd T d (.sl N [])) (upd H N (some (.tok e k 0))) (N + 1) dep) : AWD P nt c Q T H N d0 := by
  intro w0 S0 E S μ a w hs
  refine wp_mono (h w0 S0 E S _ a w (hs.ghost d e k hT)) fun e' a' w' ⟨S', μ', T', H', N', h1, h2, h3⟩ => ⟨S', μ', T', H', N', h1, h2, fun x hx => ?_⟩
  rw [h3 x hx]
  exact upd_ne _ _ (fun e => by subst e; rw [hw] at hx; cases hx)
/-- A name that was there is none of those to come. -/
theorem ne_far {nm N k : Nat} (h : nm < N) : (nm = N + k) = False := by simp; omega
theorem ne_at {nm N : Nat} (h : nm < N) : (nm = N) = False := by simp; omega
theorem ne_far' {nm N k : Nat} (h : nm < N) : (N + k = nm) = False := by simp; omega
theorem ne_at' {nm N : Nat} (h : nm < N) : (N = nm) = False := by simp; omega
theorem lt_far {nm N k : Nat} (h : nm < N) : (nm < N + k) = True := by simp; omega
theorem far_far {N j k : Nat} (h : j ≠ k) : (N + j = N + k) = False := by simp; omega
theorem far_at {N k : Nat} (h : k ≠ 0) : (N + k = N) = False := by simp; omega
theorem at_far {N k : Nat} (h : k ≠ 0) : (N = N + k) = False := by simp; omega
/-- Places of a list written out. -/
theorem range_0 : List.range 0 = [] := nr rfl
theorem range_1 : List.range 1 = [0] := nr rfl
theorem range_2 : List.range 2 = [0, 1] := nr rfl
theorem range_3 : List.range 3 = [0, 1, 2] := nr rfl
theorem range_4 : List.range 4 = [0, 1, 2, 3] := nr rfl
theorem range_5 : List.range 5 = [0, 1, 2, 3, 4] := nr rfl
theorem range_6 : List.range 6 = [0, 1, 2, 3, 4, 5] := nr rfl
theorem range_7 : List.range 7 = [0, 1, 2, 3, 4, 5, 6] := nr rfl
theorem range_8 : List.range 8 = [0, 1, 2, 3, 4, 5, 6, 7] := nr rfl
theorem range_9 : List.range 9 = [0, 1, 2, 3, 4, 5, 6, 7, 8] := nr rfl
theorem range_10 : List.range 10 = [0, 1, 2, 3, 4, 5, 6, 7, 8, 9] := nr rfl
theorem range_11 : List.range 11 = [0, 1, 2, 3, 4, 5, 6, 7, 8, 9, 10] := nr rfl
theorem range_12 : List.range 12 = [0, 1, 2, 3, 4, 5, 6, 7, 8, 9, 10, 11] := nr rfl
theorem range_13 : List.range 13 = [0, 1, 2, 3, 4, 5, 6, 7, 8, 9, 10, 11, 12] := nr rfl
theorem range_14 : List.range 14 = [0, 1, 2, 3, 4, 5, 6, 7, 8, 9, 10, 11, 12, 13] := nr rfl
theorem range_15 : List.range 15 = [0, 1, 2, 3, 4, 5, 6, 7, 8, 9, 10, 11, 12, 13, 14] := nr rfl
theorem range_16 : List.range 16 = [0, 1, 2, 3, 4, 5, 6, 7, 8, 9, 10, 11, 12, 13, 14, 15] := nr rfl
theorem range_17 : List.range 17 = [0, 1, 2, 3, 4, 5, 6, 7, 8, 9, 10, 11, 12, 13, 14, 15, 16] := nr rfl
theorem range_18 : List.range 18 = [0, 1, 2, 3, 4, 5, 6, 7, 8, 9, 10, 11, 12, 13, 14, 15, 16, 17] := nr rfl
theorem range_19 : List.range 19 = [0, 1, 2, 3, 4, 5, 6, 7, 8, 9, 10, 11, 12, 13, 14, 15, 16, 17, 18] := nr rfl
theorem range_20 : List.range 20 = [0, 1, 2, 3, 4, 5, 6, 7, 8, 9, 10, 11, 12, 13, 14, 15, 16, 17, 18, 19] := nr rfl
theorem range_21 : List.range 21 = [0, 1, 2, 3, 4, 5, 6, 7, 8, 9, 10, 11, 12, 13, 14, 15, 16, 17, 18, 19, 20] := nr rfl
theorem range_22 : List.range 22 = [0, 1, 2, 3, 4, 5, 6, 7, 8, 9, 10, 11, 12, 13, 14, 15, 16, 17, 18, 19, 20, 21] := nr rfl
theorem range_23 : List.range 23 = [0, 1, 2, 3, 4, 5, 6, 7, 8, 9, 10, 11, 12, 13, 14, 15, 16, 17, 18, 19, 20, 21, 22] := nr rfl
theorem range_24 : List.range 24 = [0, 1, 2, 3, 4, 5, 6, 7, 8, 9, 10, 11, 12, 13, 14, 15, 16, 17, 18, 19, 20, 21, 22, 23] := nr rfl
theorem range_25 : List.range 25 = [0, 1, 2, 3, 4, 5, 6, 7, 8, 9, 10, 11, 12, 13, 14, 15, 16, 17, 18, 19, 20, 21, 22, 23, 24] := nr rfl
theorem range_26 : List.range 26 = [0, 1, 2, 3, 4, 5, 6, 7, 8, 9, 10, 11, 12, 13, 14, 15, 16, 17, 18, 19, 20, 21, 22, 23, 24, 25] := nr rfl
theorem range_27 : List.range 27 = [0, 1, 2, 3, 4, 5, 6, 7, 8, 9, 10, 11, 12, 13, 14, 15, 16, 17, 18, 19, 20, 21, 22, 23, 24, 25, 26] := nr rfl
theorem range_28 : List.range 28 = [0, 1, 2, 3, 4, 5, 6, 7, 8, 9, 10, 11, 12, 13, 14, 15, 16, 17, 18, 19, 20, 21, 22, 23, 24, 25, 26, 27] := nr rfl
theorem range_29 : List.range 29 = [0, 1, 2, 3, 4, 5, 6, 7, 8, 9, 10, 11, 12, 13, 14, 15, 16, 17, 18, 19, 20, 21, 22, 23, 24, 25, 26, 27, 28] := nr rfl
theorem range_30 : List.range 30 = [0, 1, 2, 3, 4, 5, 6, 7, 8, 9, 10, 11, 12, 13, 14, 15, 16, 17, 18, 19, 20, 21, 22, 23, 24, 25, 26, 27, 28, 29] := nr rfl
theorem range_31 : List.range 31 = [0, 1, 2, 3, 4, 5, 6, 7, 8, 9, 10, 11, 12, 13, 14, 15, 16, 17, 18, 19, 20, 21, 22, 23, 24, 25, 26, 27, 28, 29, 30] := nr rfl
theorem range_32 : List.range 32 = [0, 1, 2, 3, 4, 5, 6, 7, 8, 9, 10, 11, 12, 13, 14, 15, 16, 17, 18, 19, 20, 21, 22, 23, 24, 25, 26, 27, 28, 29, 30, 31] := nr rfl
theorem range_33 : List.range 33 = [0, 1, 2, 3, 4, 5, 6, 7, 8, 9, 10, 11, 12, 13, 14, 15, 16, 17, 18, 19, 20, 21, 22, 23, 24, 25, 26, 27, 28, 29, 30, 31, 32] := nr rfl
theorem range_34 : List.range 34 = [0, 1, 2, 3, 4, 5, 6, 7, 8, 9, 10, 11, 12, 13, 14, 15, 16, 17, 18, 19, 20, 21, 22, 23, 24, 25, 26, 27, 28, 29, 30, 31, 32, 33] := nr rfl
theorem range_35 : List.range 35 = [0, 1, 2, 3, 4, 5, 6, 7, 8, 9, 10, 11, 12, 13, 14, 15, 16, 17, 18, 19, 20, 21, 22, 23, 24, 25, 26, 27, 28, 29, 30, 31, 32, 33, 34] := nr rfl
theorem range_36 : List.range 36 = [0, 1, 2, 3, 4, 5, 6, 7, 8, 9, 10, 11, 12, 13, 14, 15, 16, 17, 18, 19, 20, 21, 22, 23, 24, 25, 26, 27, 28, 29, 30, 31, 32, 33, 34, 35] := nr rfl
theorem range_37 : List.range 37 = [0, 1, 2, 3, 4, 5, 6, 7, 8, 9, 10, 11, 12, 13, 14, 15, 16, 17, 18, 19, 20, 21, 22, 23, 24, 25, 26, 27, 28, 29, 30, 31, 32, 33, 34, 35, 36] := nr rfl
theorem range_38 : List.range 38 = [0, 1, 2, 3, 4, 5, 6, 7, 8, 9, 10, 11, 12, 13, 14, 15, 16, 17, 18, 19, 20, 21, 22, 23, 24, 25, 26, 27, 28, 29, 30, 31, 32, 33, 34, 35, 36, 37] := nr rfl
theorem range_39 : List.range 39 = [0, 1, 2, 3, 4, 5, 6, 7, 8, 9, 10, 11, 12, 13, 14, 15, 16, 17, 18, 19, 20, 21, 22, 23, 24, 25, 26, 27, 28, 29, 30, 31, 32, 33, 34, 35, 36, 37, 38] := nr rfl
theorem range_40 : List.range 40 = [0, 1, 2, 3, 4, 5, 6, 7, 8, 9, 10, 11, 12, 13, 14, 15, 16, 17, 18, 19, 20, 21, 22, 23, 24, 25, 26, 27, 28, 29, 30, 31, 32, 33, 34, 35, 36, 37, 38, 39] := nr rfl
theorem map_len {α : Type} (f : α → List PV) {n : Nat} (h : ∀ a, (f a).length = n) (l : List α) : ∀ x ∈ l.map f, x.length = n := fun x hx => by
  obtain ⟨a, _, rfl⟩ := List.mem_map.1 hx
  exact h a
theorem chunk_len (l : List (List UInt8)) : (∀ x ∈ l.map chunkE, x.length = 1) = True := eq_true (map_len chunkE (fun _ => rfl) l)
theorem text_len (l : List (List UInt8)) : (∀ x ∈ l.map textE, x.length = 1) = True := eq_true (map_len textE (fun _ => rfl) l)
theorem num_len (l : List Int) : (∀ x ∈ l.map numE, x.length = 1) = True := eq_true (map_len numE (fun _ => rfl) l)
theorem byte_len (l : List UInt8) : (∀ x ∈ l.map byteE, x.length = 1) = True := eq_true (map_len byteE (fun _ => rfl) l)
theorem nil_all {α : Type} (p : α → Prop) : (∀ x ∈ ([] : List α), p x) = True := by simp
theorem cons_all {α : Type} (p : α → Prop) (a : α) (l : List α) : (∀ x ∈ a :: l, p x) = (p a ∧ ∀ x ∈ l, p x) := by simp
theorem bytes_ok (l : List UInt8) : (∀ x ∈ l.map byteE, ∃ c, x = byteE c) = True := by
  apply eq_true
  intro x hx
  obtain ⟨c, _, rfl⟩ := List.mem_map.1 hx
  exact ⟨c, rfl⟩
theorem cmp_l {ops : Array Oper} {i j : Nat} {A : Prop} (h : cmpB ops i j = true) : cmpB ops i j = true ∨ A := .inl h
theorem cmp_r {ops : Array Oper} {i j : Nat} {A : Prop} (h : A) : cmpB ops i j = true ∨ A := .inr h
theorem u8_beq (a b : UInt8) : ((a.toNat : Int) == (b.toNat : Int)) = (a == b) := by
  rw [Bool.eq_iff_iff, beq_iff_eq, beq_iff_eq]
  exact ⟨fun h => UInt8.toNat_inj.1 (by omega), fun h => by rw [h]⟩
theorem u8_bne (a b : UInt8) : ((a.toNat : Int) != (b.toNat : Int)) = (a != b) := by rw [bne, bne, u8_beq]
theorem byte_ex (c : UInt8) : (∃ c', byteE c = byteE c') = True := eq_true ⟨c, rfl⟩
/-- Counting on. -/
theorem wrap_succ {k : Nat} (h : (k : Int) < 9223372036854775807) : IntKind.i64.wrap ((k : Int) + 1) = ((k + 1 : Nat) : Int) := by
  rw [IntWalk.i64_in _ (by omega)]; omega
theorem wrap_add {a b : Nat} (h : (a : Int) + b ≤ 9223372036854775807) : IntKind.i64.wrap ((a : Int) + b) = ((a + b : Nat) : Int) := by
  rw [IntWalk.i64_in _ (by omega)]; omega
theorem wrap_pred {k : Nat} (h : (k : Int) ≤ 9223372036854775807) (h0 : 0 < k) : IntKind.i64.wrap ((k : Int) - 1) = ((k - 1 : Nat) : Int) := by
  rw [IntWalk.i64_in _ (by omega)]; omega
theorem wrap_0 : IntKind.i64.wrap 0 = 0 := IntWalk.i64_in _ (by omega)
theorem wrap_1 : IntKind.i64.wrap 1 = 1 := IntWalk.i64_in _ (by omega)
theorem wrap_m1 : IntKind.i64.wrap (-1) = -1 := IntWalk.i64_in _ (by omega)
theorem wrap_minus : IntKind.i64.wrap (((0 : Nat) : Int) - 1) = -1 := IntWalk.i64_in _ (by omega)
theorem drop_eq {α : Type} {l : List α} {k : Nat} (d : α) (h : (k : Int) < l.length) : l.drop k = l.getD k d :: l.drop (k + 1) := by
  have hk : k < l.length := by omega
  rw [List.drop_eq_getElem_cons hk, List.getD_eq_getElem?_getD, List.getElem?_eq_getElem hk]
  rfl
theorem drop_end {α : Type} {l : List α} {k : Nat} (h : (l.length : Int) ≤ k) : l.drop k = [] := List.drop_eq_nil_of_le (by omega)
theorem take_succ {α : Type} {l : List α} {k : Nat} (d : α) (h : (k : Int) < l.length) : l.take (k + 1) = l.take k ++ [l.getD k d] := by
  have hk : k < l.length := by omega
  rw [List.take_add_one, List.getElem?_eq_getElem hk, List.getD_eq_getElem?_getD, List.getElem?_eq_getElem hk]
  rfl
theorem getD_map' {α β : Type} {l : List α} {k : Nat} (f : α → β) (d : α) (e : β) (h : (k : Int) < l.length) : (l.map f).getD k e = f (l.getD k d) := by
  have hk : k < l.length := by omega
  simp [List.getD_eq_getElem?_getD, hk]
/-- Every one is so, told from some place on. -/
theorem all_no {α : Type} {p : α → Bool} {s : List α} {k : Nat} (d : α) (hc : s.all p = (s.drop k).all p) (h : (k : Int) < s.length) (hp : p (s.getD k d) = false) : s.all p = false := by
  rw [hc, drop_eq d h, List.all_cons, hp]; rfl
theorem all_go {α : Type} {p : α → Bool} {s : List α} {k : Nat} (d : α) (hc : s.all p = (s.drop k).all p) (h : (k : Int) < s.length) (hp : p (s.getD k d) = true) : s.all p = (s.drop (k + 1)).all p := by
  rw [hc, drop_eq d h, List.all_cons, hp]; rfl
theorem all_end {α : Type} {p : α → Bool} {s : List α} {k : Nat} (hc : s.all p = (s.drop k).all p) (h : (s.length : Int) ≤ k) : s.all p = true := by
  rw [hc, drop_end h]; rfl
theorem bool_and_f {a b : Prop} [Decidable a] [Decidable b] (h : ¬ a ∨ ¬ b) : (decide a && decide b) = false := by
  rcases h with h | h <;> simp [h]
theorem bool_and_t {a b : Prop} [Decidable a] [Decidable b] (h1 : a) (h2 : b) : (decide a && decide b) = true := by simp [h1, h2]
end Go.Proofs.YtgagnohelibaoaaDoor
