import Derived.Test.YtgagnohelibaoaaDoorK
import Derived.ChangeArms
import Derived.OpenShut
import Derived.DataReads
/-! What an argument of a row is read as. -/
set_option linter.unusedSimpArgs false
set_option linter.unusedVariables false
namespace Go.Proofs.YtgagnohelibaoaaDoor
open Go.RowKit

/-- What a cell of a row is. -/
inductive Sh where
  | int (k : IntKind)
  | bool
  | str
  | sl (l : List Sh)
def shFs (P : Program) (g : TypeId → Option (List Sh)) : List Field → Nat → Option (List Sh)
  | [], _ => some []
  | f :: fs, off => if f.offset = off then (match g f.type with
    | none => none
    | some l => if l.length = P.cellsOf f.type then (match shFs P g fs (off + l.length) with
      | none => none
      | some l' => some (l ++ l')) else none) else none
def shOf (P : Program) : Nat → TypeId → Option (List Sh)
  | 0, _ => none
  | n + 1, t => match P.underlying t with
    | some (.int k) => some [.int k]
    | some .bool => some [.bool]
    | some .string => some [.str]
    | some (.slice e) => (match shOf P n e with
      | some l => if l.length = P.cellsOf e then some [.sl l] else none
      | none => none)
    | some (.struct fs) => (match shFs P (shOf P n) fs.toList 0 with
      | some l => if l.length = P.cellsOf t then some l else none
      | none => none)
    | some (.array m e) => (match shOf P n e with
      | some l => if l.length = P.cellsOf e ∧ (List.replicate m l).flatten.length = P.cellsOf t then some (List.replicate m l).flatten else none
      | none => none)
    | _ => none
/-- A cell that is so. -/
inductive OkS : Sh → PV → Prop
  | int (k : IntKind) (n : Int) (h : (Lit.int k n).wf = true) : OkS (.int k) (.int k n)
  | bool (b : Bool) : OkS .bool (.bool b)
  | str (l : List UInt8) (h : l.length ≤ maxLen) : OkS .str (.str l)
  | sl (l : List Sh) (xs : List (List PV)) (hm : xs.length ≤ maxLen) (hk : ∀ x ∈ xs, x.length = l.length) (h : ∀ x ∈ xs, ∀ (i : Nat) s p, l[i]? = some s → x[i]? = some p → OkS s p) : OkS (.sl l) (.sl 1 xs)
/-- The cells that are there. -/
def S0 (w : World) : Addr → Prop := fun a => a.block < w.heap.size ∧ a.spot = none
theorem S0_cell {w : World} {a : Addr} {v : Value} (h : w.cell? a = some v) : S0 w a := by
  unfold World.cell? at h
  split at h
  · rename_i c e f hb
    split at h
    · cases h
    · rename_i hs
      exact ⟨(Array.getElem?_eq_some_iff.1 hb).1, by cases hh : a.spot with | none => rfl | some _ => rw [hh] at hs; simp at hs⟩
  · cases h
inductive Op3 (w : World) : List Sh → List PV → List Value → Prop
  | nil : Op3 w [] [] []
  | cons {s : Sh} {p : PV} {v : Value} {ss : List Sh} {ps : List PV} {vs : List Value} (h : OkS s p) (h1 : v.oneCell' = true) (hr : CRel (S0 w) w p v) (ht : Op3 w ss ps vs) : Op3 w (s :: ss) (p :: ps) (v :: vs)
theorem Op3.append {w : World} {a a' : List Sh} {b b' : List PV} {c c' : List Value} (h : Op3 w a b c) (h' : Op3 w a' b' c') : Op3 w (a ++ a') (b ++ b') (c ++ c') := by
  induction h with
  | nil => exact h'
  | cons h h1 hr _ ih => exact .cons h h1 hr ih
theorem Op3.len {w : World} {a : List Sh} {b : List PV} {c : List Value} (h : Op3 w a b c) : b.length = a.length ∧ c.length = a.length := by
  induction h with
  | nil => exact ⟨rfl, rfl⟩
  | cons h h1 hr _ ih => exact ⟨by simp [ih.1], by simp [ih.2]⟩
theorem Op3.ok {w : World} {a : List Sh} {b : List PV} {c : List Value} (h : Op3 w a b c) : ∀ (i : Nat) s p, a[i]? = some s → b[i]? = some p → OkS s p := by
  induction h with
  | nil => intro i s p h; simp at h
  | cons h h1 hr _ ih =>
    intro i s p hs hp
    cases i with
    | zero => simp at hs hp; subst hs; subst hp; exact h
    | succ i => exact ih i s p (by simpa using hs) (by simpa using hp)
theorem Op3.rel {w : World} {a : List Sh} {b : List PV} {c : List Value} (h : Op3 w a b c) : ∀ (i : Nat) p, b[i]? = some p → ∃ v, c[i]? = some v ∧ v.oneCell' = true ∧ CRel (S0 w) w p v := by
  induction h with
  | nil => intro i p h; simp at h
  | cons h h1 hr _ ih =>
    intro i p hp
    cases i with
    | zero => simp at hp; subst hp; exact ⟨_, rfl, h1, hr⟩
    | succ i => simpa using ih i p (by simpa using hp)

section
variable {H : Type} {enc : TypeId × Value → H} {P : Program} {w : World} {spare : Nat → Bool} {held : Bool}
theorem open_fs {n : Nat} {g : TypeId → Option (List Sh)} {cs : List Value} (hg : ∀ t l cs x, g t = some l → DataW.trod enc P w 0 spare held n t cs = some x → ∃ ps, Op3 w l ps cs) :
    ∀ (fs : List Field) (off : Nat) (l : List Sh), shFs P g fs off = some l → (∀ f ∈ fs, ∃ y, DataW.trod enc P w 0 spare held n f.type ((cs.drop f.offset).take (P.cellsOf f.type)) = some y) → ∃ ps, Op3 w l ps ((cs.drop off).take l.length)
  | [], off, l, h, _ => by
    simp only [shFs, Option.some.injEq] at h
    subst h
    exact ⟨[], by simpa using Op3.nil⟩
  | f :: fs, off, l, h, hy => by
    simp only [shFs] at h
    split at h
    · rename_i hoff
      split at h
      · cases h
      · rename_i l1 hl1
        split at h
        · rename_i hlen
          split at h
          · cases h
          · rename_i l2 hl2
            cases h
            obtain ⟨y, hy1⟩ := hy f (by simp)
            obtain ⟨p1, h1⟩ := hg _ _ _ _ hl1 hy1
            obtain ⟨p2, h2⟩ := open_fs hg fs _ l2 hl2 (fun f' h' => hy f' (by simp [h']))
            refine ⟨p1 ++ p2, ?_⟩
            have e : (cs.drop off).take (l1 ++ l2).length = (cs.drop off).take l1.length ++ (cs.drop (off + l1.length)).take l2.length := by
              rw [List.length_append, List.take_add, List.drop_drop]
            rw [e]
            rw [hoff, ← hlen] at h1
            exact h1.append h2
        · cases h
    · cases h
theorem open_arr {n k : Nat} {t : TypeId} {l : List Sh} {cs : List Value} (hk : l.length = k) : ∀ (m i : Nat), (∀ j, i ≤ j → j < i + m → ∃ ps, Op3 w l ps ((cs.drop (j * k)).take k)) → ∃ ps, Op3 w (List.replicate m l).flatten ps ((cs.drop (i * k)).take (m * k))
  | 0, i, _ => ⟨[], by simpa using Op3.nil⟩
  | m + 1, i, h => by
    obtain ⟨p1, h1⟩ := h i (by omega) (by omega)
    obtain ⟨p2, h2⟩ := open_arr hk m (i + 1) (fun j h1 h2 => h j (by omega) (by omega)) (t := t) (n := n)
    refine ⟨p1 ++ p2, ?_⟩
    have e : (cs.drop (i * k)).take ((m + 1) * k) = (cs.drop (i * k)).take k ++ (cs.drop ((i + 1) * k)).take (m * k) := by
      rw [Nat.add_mul, Nat.one_mul, Nat.add_comm (m * k) k, List.take_add, List.drop_drop, Nat.add_mul, Nat.one_mul]
    rw [e, List.replicate_succ, List.flatten_cons]
    exact h1.append h2
theorem trod_open : ∀ (m n : Nat) (t : TypeId) (l : List Sh) (cs : List Value) (x), shOf P m t = some l → DataW.trod enc P w 0 spare held n t cs = some x → ∃ ps, Op3 w l ps cs
  | 0, n, t, l, cs, x, h, _ => by simp [shOf] at h
  | m + 1, n, t, l, cs, x, h, hx => by
    simp only [shOf] at h
    split at h
    · rename_i k hu
      cases h
      obtain ⟨v, rfl, _, hw⟩ := DataW.trod_int hu hx
      exact ⟨[.int k v], .cons (.int k v hw) rfl (.int k v) .nil⟩
    · rename_i hu
      cases h
      obtain ⟨v, rfl, _⟩ := DataW.trod_bool hu hx
      exact ⟨[.bool v], .cons (.bool v) rfl (.bool v) .nil⟩
    · rename_i hu
      cases h
      obtain ⟨s, rfl, _, hs⟩ := DataW.trod_string hu hx
      exact ⟨[.str s.data.toList], .cons (.str _ (by simp only [Array.length_toList]; exact hs)) rfl (by simpa only [Array.toArray_toList] using CRel.str (S := S0 w) (w := w) s.data.toList) .nil⟩
    · rename_i e hu
      split at h
      · rename_i l1 hl1
        split at h
        · rename_i hlen
          cases h
          rcases DataW.trod_slice hu hx with ⟨rfl, _⟩ | ⟨a, len, cap, elems, rest, n', rfl, rfl, _, _, hlc, hcm, hel, hget, _, _⟩
          · exact ⟨[.sl 1 []], .cons (.sl l1 [] (Nat.zero_le _) (fun x h => by cases h) (fun x h => by cases h)) rfl
              (.sl 1 [] none 0 0 (fun _ _ => .nilFunc) (by omega) (fun h => by cases h) (fun _ => ⟨rfl, rfl⟩) (Nat.le_refl _) (Nat.zero_le _) (fun x h => by cases h) (fun _ _ => rfl) (fun i j x p h => by simp at h) (fun i j x p h => by simp at h)) .nil⟩
          · have each : ∀ i, ∃ y : List PV × (Nat → Value), y.1.length = l1.length ∧ (∀ j, (y.2 j).oneCell' = true) ∧ (i < len → (∀ (j : Nat) s p, l1[j]? = some s → y.1[j]? = some p → OkS s p) ∧ ∀ (j : Nat) p, y.1[j]? = some p → w.cell? (a.add (i * l1.length + j)) = some (y.2 j) ∧ CRel (S0 w) w p (y.2 j)) := fun i => by
              by_cases hi : i < len
              · have h1 := hget i hi
                obtain ⟨z, hz⟩ : ∃ z, elems[i]? = some z := ⟨elems[i]'(by omega), by simp⟩
                rw [hz, Option.bind_eq_some_iff] at h1
                obtain ⟨ds, hds, hz'⟩ := h1
                obtain ⟨ps, hps⟩ := trod_open m _ e l1 ds _ hl1 hz'
                obtain ⟨_, hdl, hdc⟩ := World.cells?_some hds
                refine ⟨(ps, fun j => if j < ds.length then ds.getD j .nilFunc else .nilFunc), hps.len.1, fun j => ?_, fun _ => ⟨hps.ok, fun j p hp => ?_⟩⟩
                · simp only
                  split
                  · rename_i hj
                    have : j < ps.length := by have := hps.len; omega
                    obtain ⟨v, hv, hv1, _⟩ := hps.rel j ps[j] (by simp)
                    simp only [List.getD_eq_getElem?_getD, hv, Option.getD_some]
                    exact hv1
                  · rfl
                · obtain ⟨v, hv, hv1, hv2⟩ := hps.rel j p hp
                  have hj : j < ds.length := (List.getElem?_eq_some_iff.1 hv).1
                  simp only [if_pos hj, List.getD_eq_getElem?_getD, hv, Option.getD_some]
                  refine ⟨?_, hv2⟩
                  have h2 := hdc j (by omega)
                  rw [hv] at h2
                  rw [hlen, ← Addr.add_add]
                  exact h2
              · exact ⟨(List.replicate l1.length .undef, fun _ => .nilFunc), by simp, fun _ => rfl, fun h => absurd h hi⟩
            obtain ⟨y, hy⟩ := Classical.axiomOfChoice each
            have hmem : ∀ x ∈ (List.range len).map (fun i => (y i).1), ∃ i, i < len ∧ x = (y i).1 := fun x hx => by
              obtain ⟨i, hi, rfl⟩ := List.mem_map.1 hx
              exact ⟨i, List.mem_range.1 hi, rfl⟩
            have hgt : ∀ (i : Nat) x, ((List.range len).map (fun i => (y i).1))[i]? = some x → i < len ∧ x = (y i).1 := fun i x hx => by
              rw [List.getElem?_map] at hx
              by_cases hi : i < len
              · rw [List.getElem?_range hi] at hx; simp at hx; exact ⟨hi, hx.symm⟩
              · rw [List.getElem?_eq_none (by simp; omega)] at hx; cases hx
            refine ⟨[.sl 1 ((List.range len).map fun i => (y i).1)], .cons (.sl l1 _ (by rw [List.length_map, List.length_range]; exact Nat.le_trans hlc hcm) (fun x hx => ?_) (fun x hx j s p hs hp => ?_)) rfl ?_ .nil⟩
            · obtain ⟨i, hi, rfl⟩ := hmem x hx
              exact (hy i).1
            · obtain ⟨i, hi, rfl⟩ := hmem x hx
              exact ((hy i).2.2 hi).1 j s p hs hp
            · have := CRel.sl (S := S0 w) (w := w) 1 ((List.range len).map fun i => (y i).1) (some a) cap l1.length (fun i j => (y i).2 j) (by omega) (fun h => by cases h) (fun h => by cases h) (by simpa using hlc) hcm
                (fun x hx => by obtain ⟨i, hi, rfl⟩ := hmem x hx; exact (hy i).1) (fun i j => (hy i).2.1 j)
                (fun i j x p hx hp => by
                  obtain ⟨hi, rfl⟩ := hgt i x hx
                  have := ((hy i).2.2 hi).2 j p hp
                  exact ⟨a, rfl, S0_cell this.1, this.1⟩)
                (fun i j x p hx hp => by
                  obtain ⟨hi, rfl⟩ := hgt i x hx
                  exact (((hy i).2.2 hi).2 j p hp).2)
              simpa using this
        · cases h
      · cases h
    · rename_i fs hu
      split at h
      · rename_i l1 hl1
        split at h
        · rename_i hlen
          cases h
          obtain ⟨xs, n', rfl, _, hcl, hxl, hget⟩ := DataW.trod_struct hu hx
          obtain ⟨ps, hps⟩ := open_fs (w := w) (enc := enc) (spare := spare) (held := held) (n := n') (cs := cs) (fun t l cs x h1 h2 => trod_open m n' t l cs x h1 h2) fs.toList 0 l hl1 (fun f hf => by
            obtain ⟨i, hi⟩ := List.getElem?_of_mem hf
            rw [Array.getElem?_toList] at hi
            have h1 := hget i f hi
            have : i < xs.length := by rw [hxl]; exact (Array.getElem?_eq_some_iff.1 hi).1
            exact ⟨xs[i], by rw [h1]; simp⟩)
          refine ⟨ps, ?_⟩
          rw [List.drop_zero, List.take_of_length_le (by omega)] at hps
          exact hps
        · cases h
      · cases h
    · rename_i k e hu
      split at h
      · rename_i l1 hl1
        split at h
        · rename_i hlen
          cases h
          obtain ⟨xs, n', rfl, _, hcl, hxl, hget⟩ := DataW.trod_array hu hx
          obtain ⟨ps, hps⟩ := open_arr (w := w) (cs := cs) (n := n') (t := t) (l := l1) (k := P.cellsOf e) hlen.1 k 0 (fun j _ hj => by
            have h1 := hget j (by omega)
            have : j < xs.length := by omega
            exact trod_open m n' e l1 _ xs[j] hl1 (by rw [h1]; simp))
          refine ⟨ps, ?_⟩
          have h2 : (List.replicate k l1).flatten.length = k * P.cellsOf e := by simp [hlen.1]
          rw [Nat.zero_mul, List.drop_zero, List.take_of_length_le (by omega)] at hps
          exact hps
        · cases h
      · cases h
    · cases h

/-- A whole value that is so. -/
def OkV (P : Program) (m : Nat) (t : TypeId) (q : PV) : Prop := ∃ l, shOf P m t = some l ∧ match P.underlying t with
  | some (.struct _) | some (.array _ _) => ∃ ps, q = .agg ps ∧ ps.length = l.length ∧ ∀ (i : Nat) s p, l[i]? = some s → ps[i]? = some p → OkS s p
  | _ => ∃ s, l = [s] ∧ OkS s q
theorem open_pv {base : Nat} {R : Reach} {t : TypeId} {v : Value} {d : DataW H} {ps : List MemPlace} (m : Nat) (hs : (shOf P m t).isSome = true) (hv : Value.okWide P w R base t v) (h : DataW.Trod enc P w 0 spare held t v d ps) : ∃ q, OkV P m t q ∧ CRel (S0 w) w q v := by
  obtain ⟨n, h⟩ := h
  obtain ⟨l, hl⟩ := Option.isSome_iff_exists.1 hs
  obtain ⟨qs, hq⟩ := trod_open m n t l _ _ hl h
  unfold Value.okWide at hv
  unfold OkV
  have agg : (∃ cs, v = .agg cs ∧ cs.size = P.cellsOf t ∧ Row.okWide P w R base t cs) → ∃ q, (∃ ps, q = .agg ps ∧ ps.length = l.length ∧ ∀ (i : Nat) s p, l[i]? = some s → ps[i]? = some p → OkS s p) ∧ CRel (S0 w) w q v := fun ⟨cs, e, _, _⟩ => by
    subst e
    refine ⟨.agg qs, ⟨qs, rfl, hq.len.1, hq.ok⟩, .agg qs cs (by have := hq.len; simp [Value.cells] at this; omega) fun i p hp => ?_⟩
    obtain ⟨u, hu, _, hr⟩ := hq.rel i p hp
    have : cs.getD i undef = u := by
      simp only [Value.cells, Array.getElem?_toList] at hu
      simp [Array.getD_eq_getD_getElem?, hu]
    rw [this]
    exact hr
  have one : (∀ fs, P.underlying t ≠ some (.struct fs)) → (∀ k e, P.underlying t ≠ some (.array k e)) → ∃ q, (∃ s, l = [s] ∧ OkS s q) ∧ CRel (S0 w) w q v := fun n1 n2 => by
    have h1 : l.length = 1 := by
      cases m with
      | zero => simp [shOf] at hl
      | succ m =>
        simp only [shOf] at hl
        split at hl
        · cases hl; rfl
        · cases hl; rfl
        · cases hl; rfl
        · split at hl
          · split at hl
            · cases hl; rfl
            · cases hl
          · cases hl
        · rename_i fs hu; exact absurd hu (n1 fs)
        · rename_i k e hu; exact absurd hu (n2 k e)
        · cases hl
    obtain ⟨s, rfl⟩ := List.length_eq_one_iff.1 h1
    obtain ⟨q, rfl⟩ := List.length_eq_one_iff.1 (hq.len.1.trans h1)
    obtain ⟨u, hu, _, hr⟩ := hq.rel 0 q rfl
    refine ⟨q, ⟨s, rfl, hq.ok 0 s q rfl rfl⟩, ?_⟩
    have hl1 := hq.len.2
    cases v with
    | agg cs =>
      exfalso
      cases hd : P.underlying t with
      | none => rw [hd] at hv; simp [Cell.okWide, Cell.ok, hd] at hv
      | some dd => rw [hd] at hv; cases dd <;> simp [Cell.okWide, Cell.ok, hd] at hv n1 n2
    | _ =>
      simp only [Value.cells] at hu
      first
        | (simp at hu; subst hu; exact hr)
        | skip
  split at hv
  · rename_i fs hu
    obtain ⟨q, h1, h2⟩ := agg hv
    exact ⟨q, ⟨l, hl, by simpa [hu] using h1⟩, h2⟩
  · rename_i k e hu
    obtain ⟨q, h1, h2⟩ := agg hv
    exact ⟨q, ⟨l, hl, by simpa [hu] using h1⟩, h2⟩
  · rename_i n1 n2
    obtain ⟨q, h1, h2⟩ := one (fun fs h => n1 fs h) (fun k e h => n2 k e h)
    refine ⟨q, ⟨l, hl, ?_⟩, h2⟩
    split
    · rename_i fs hu; exact absurd hu (n1 fs)
    · rename_i k e hu; exact absurd hu (n2 k e)
    · exact h1
end
end Go.Proofs.YtgagnohelibaoaaDoor
