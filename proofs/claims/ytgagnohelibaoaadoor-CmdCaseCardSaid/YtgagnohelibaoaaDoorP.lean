import Derived.Test.YtgagnohelibaoaaDoorO
/-! That a quiet operation in memory comes to what it comes to without. -/
set_option linter.unusedSimpArgs false
set_option linter.unusedVariables false
namespace Go.Proofs.YtgagnohelibaoaaDoor
open Go.RowKit

section
variable {P : Program} {S : Addr → Prop} {μ : Nat → Value} {D : Nat → Prop} {w : World}

theorem rel_bool {b : Bool} {v : Value} (h : Rel S μ D w (.bool b) v) : v = .bool b := by cases h with | c h => cases h; rfl
theorem rel_int {k : IntKind} {n : Int} {v : Value} (h : Rel S μ D w (.int k n) v) : v = .int k n := by cases h with | c h => cases h; rfl
theorem rel_str {l : List UInt8} {v : Value} (h : Rel S μ D w (.str l) v) : v = .string ⟨l.toArray⟩ := by cases h with | c h => cases h; rfl
theorem rel_lit {x v : Value} (h : Rel S μ D w (.lit x) v) : v = x := by cases h with | c h => cases h; rfl
theorem rel_sl {t : Nat} {xs : List (List PV)} {v : Value} (h : Rel S μ D w (.sl t xs) v) : CRel S w (.sl 1 xs) v := by
  cases h with
  | c h => exact h.dead
  | tok _ _ _ _ _ _ h => exact h
theorem crel_sl {t : Nat} {xs : List (List PV)} {v : Value} (h : CRel S w (.sl t xs) v) : ∃ A c, v = .slice A xs.length c ∧ xs.length ≤ c ∧ c ≤ maxLen := by
  cases h with
  | sl _ _ A c k u ht h0 hn hc hm hk hone hcell hrel => exact ⟨A, c, rfl, hc, hm⟩
theorem rel_agg {cs : List PV} {v : Value} (h : Rel S μ D w (.agg cs) v) : ∃ arr, v = .agg arr ∧ arr.size = cs.length ∧ ∀ (i : Nat) p, cs[i]? = some p → Rel S μ D w p (arr.getD i undef) := by
  cases h with
  | c h => cases h with | agg _ arr hs h => exact ⟨arr, rfl, hs, fun i p hp => .c (h i p hp)⟩
  | agg _ arr hs h => exact ⟨arr, rfl, hs, h⟩
theorem rel_tup {cs : List PV} {v : Value} (h : Rel S μ D w (.tup cs) v) : ∃ arr, v = .tuple arr ∧ arr.size = cs.length ∧ ∀ (i : Nat) p, cs[i]? = some p → Rel S μ D w p (arr.getD i undef) := by
  cases h with
  | c h => cases h with | tup _ arr hs h => exact ⟨arr, rfl, hs, fun i p hp => .c (h i p hp)⟩
  | tup _ arr hs h => exact ⟨arr, rfl, hs, h⟩
theorem rel_ptr {nm off : Nat} {v : Value} (h : Rel S μ D w (.ptr nm off) v) : ∃ g, v = .pointer (some ⟨g, off, none⟩) ∧ D nm ∧ μ nm = .pointer (some ⟨g, 0, none⟩) := by
  cases h with
  | c h => cases h
  | ptr _ _ g hx hg => exact ⟨g, rfl, hx, hg⟩
theorem rel_bs {nm off k n m : Nat} {v : Value} (h : Rel S μ D w (.bs nm off k n m) v) : ∃ g o c, v = .slice (some ⟨g, o, none⟩) n c ∧ D nm ∧ μ nm = .pointer (some ⟨g, 0, none⟩) ∧ (0 < m → o = off) ∧ n ≤ m ∧ m ≤ c ∧ c ≤ maxLen := by
  cases h with
  | c h => cases h
  | bs _ _ _ _ _ g o c hx hg ho hn hm hc => exact ⟨g, o, c, rfl, hx, hg, ho, hn, hm, hc⟩
theorem rel_mp {nm : Nat} {v : Value} (h : Rel S μ D w (.mp nm) v) : ∃ g, v = .map (some g) ∧ D nm ∧ μ nm = .map (some g) := by
  cases h with
  | c h => cases h
  | mp _ g hx hg => exact ⟨g, rfl, hx, hg⟩
theorem rel_iptr {cs : List PV} {v : Value} (h : Rel S μ D w (.iptr cs) v) : ∃ (ad : Addr) (u : Nat → Value), v = .pointer (some ad) ∧ (∀ j, (u j).oneCell' = true) ∧ (∀ (j : Nat) p, cs[j]? = some p → S (ad.add j) ∧ w.cell? (ad.add j) = some (u j)) ∧
    ∀ (j : Nat) p, cs[j]? = some p → CRel S w p (u j) := by
  cases h with
  | c h => cases h with | iptr _ ad u hone hcell hrel => exact ⟨ad, u, rfl, hone, hcell, hrel⟩
theorem rel_clo {f : Fn} {fst cap : List PV} {v : Value} (h : Rel S μ D w (.clo f fst cap) v) : ∃ fs cs, v = .func f fs cs ∧ fs.size = fst.length ∧ cs.size = cap.length ∧ (∀ (i : Nat) p, fst[i]? = some p → Rel S μ D w p (fs.getD i undef)) ∧
    ∀ (i : Nat) p, cap[i]? = some p → Rel S μ D w p (cs.getD i undef) := by
  cases h with
  | c h => cases h with | clo _ _ _ fs cs h1 h2 r1 r2 => exact ⟨fs, cs, rfl, h1, h2, fun i p hp => .c (r1 i p hp), fun i p hp => .c (r2 i p hp)⟩
  | clo _ _ _ fs cs h1 h2 r1 r2 => exact ⟨fs, cs, rfl, h1, h2, r1, r2⟩

theorem rel_ofValC (v : Value) : Rel S μ D w (ofValC v) v := by
  unfold ofValC
  split
  · exact .c (.bool _)
  · exact .c (.int _ _)
  · rename_i s
    have : CRel S w (.str s.data.toList) (.string ⟨s.data.toList.toArray⟩) := .str _
    rw [Array.toArray_toList] at this
    exact .c this
  · exact .c (.sl 0 [] none 0 0 (fun _ _ => .nilFunc) (by omega) (fun _ => rfl) (fun _ => ⟨rfl, rfl⟩) (Nat.le_refl _) (Nat.zero_le _) (fun x h => by cases h) (fun _ _ => rfl) (fun i j x p h => by simp at h) (fun i j x p h => by simp at h))
  · exact .c (.clo _ [] [] _ _ rfl rfl (fun i p h => by simp at h) (fun i p h => by simp at h))
  · exact .c (.lit _)
  · exact .c (.lit _)
  · exact .c (.lit _)
  · exact .c (.lit _)
  · exact .c (.undef _)
theorem rel_ofVal (v : Value) : Rel S μ D w (ofVal v) v := by
  unfold ofVal
  split
  · rename_i cs
    refine .agg _ _ (by simp) fun i p hp => ?_
    rw [List.getElem?_map, Array.getElem?_toList] at hp
    cases hc : cs[i]? with
    | none => rw [hc] at hp; cases hp
    | some u =>
      rw [hc] at hp
      simp only [Option.map_some, Option.some.injEq] at hp
      subst hp
      rw [Array.getD_eq_getD_getElem?, hc]
      exact rel_ofValC u
  · exact rel_ofValC v

/-- An operand. -/
def ev (T : Nat → PV) : Operand → PV
  | .tmp t => T t
  | .const v => ofVal v
  | .global _ => .undef
  | .func f => .clo (.func f) [] []
theorem rel_ev {T : Nat → PV} {a : Act} (h : ∀ i, Rel S μ D w (T i) (a.tmps.getD i undef)) (x : Operand) : Rel S μ D w (ev T x) (a.eval x) := by
  cases x with
  | tmp t => exact h t
  | const v => exact rel_ofVal v
  | global g => exact .c (.undef _)
  | func f => exact .c (.clo _ [] [] _ _ rfl rfl (fun i p h => by simp at h) (fun i p h => by simp at h))

theorem run_cond {α : Type} (b : Prop) [Decidable b] (x y : Sem α) (w : World) : (if b then x else y).run P w = if b then x.run P w else y.run P w := by split <;> rfl
theorem isAgg_run {u : TypeId} {d : TypeDesc} (h : P.underlying u = some d) (w : World) : (isAgg u).run P w = .ok (isAggD d) w := by
  cases d <;> simp [isAgg, isAggD, run_underlying h]
theorem sizeOf_run {u : TypeId} {i : TypeInfo} (h : P.info? u = some i) (w : World) : (sizeOf u).run P w = .ok i.size w := by
  simp [sizeOf, typeInfo, h]
theorem cellsOf_eq {u : TypeId} {i : TypeInfo} (h : P.info? u = some i) : P.cellsOf u = i.size := by simp [Program.cellsOf, h]

theorem part_run {u : TypeId} {cs : List PV} {off : Nat} {p : PV} {arr : Array Value} (h : partE P u cs off = some p) (hs : arr.size = cs.length) (hr : ∀ (i : Nat) p, cs[i]? = some p → Rel S μ D w p (arr.getD i undef)) :
    ∃ v, (part u arr off).run P w = .ok v w ∧ Rel S μ D w p v := by
  unfold partE at h
  cases ht : tyOf P u with
  | none => rw [ht] at h; cases h
  | some ty =>
    rw [ht] at h
    obtain ⟨i, d, z, h1, h2, h3, rfl⟩ := tyOf_inv ht
    unfold part
    simp only at h
    cases hd : isAggD d with
    | true =>
      rw [hd, if_pos rfl] at h
      split at h
      · rename_i hle
        cases h
        refine ⟨.agg (arr.extract off (off + i.size)), by simp [isAgg_run h2, hd, sizeOf_run h1], .agg _ _ (by simp; omega) fun j q hj => ?_⟩
        rw [List.getElem?_take] at hj
        split at hj
        · rename_i hlt
          rw [List.getElem?_drop] at hj
          have := hr _ _ hj
          have e : (arr.extract off (off + i.size)).getD j undef = arr.getD (off + j) undef := by
            simp only [Array.getD_eq_getD_getElem?]
            rw [Array.getElem?_extract]
            congr 1
            rw [if_pos (by omega)]
          rw [e]
          exact this
        · cases hj
      · cases h
    | false =>
      rw [hd] at h
      simp only [Bool.false_eq_true, if_false] at h
      have hlt : off < arr.size := by rw [hs]; exact (List.getElem?_eq_some_iff.1 h).1
      refine ⟨arr.getD off undef, ?_, hr _ _ h⟩
      simp [isAgg_run h2, hd, hlt]

/-- A variable is read: from address b on its cells are those from off on. -/
theorem loadVar_run {t : TypeId} {cs : List PV} {off : Nat} {p : PV} (h : partE P t cs off = some p) (b : Addr) (f : Nat → Value) (hc : ∀ (j : Nat) q, cs[off + j]? = some q → w.cell? (b.add j) = some (f j))
    (hr : ∀ (j : Nat) q, cs[off + j]? = some q → Rel S μ D w q (f j)) : ∃ v, (loadVar t b).run P w = .ok v w ∧ Rel S μ D w p v := by
  unfold partE at h
  cases ht : tyOf P t with
  | none => rw [ht] at h; cases h
  | some ty =>
    rw [ht] at h
    obtain ⟨i, d, z, h1, h2, h3, rfl⟩ := tyOf_inv ht
    unfold loadVar
    simp only at h
    cases hd : isAggD d with
    | true =>
      rw [hd, if_pos rfl] at h
      split at h
      · rename_i hle
        cases h
        have hl := run_loadCells (P := P) w b i.size f (fun j hj => hc j cs[off + j] (by simp))
        refine ⟨.agg ((List.range i.size).map f).toArray, by simp [isAgg_run h2, hd, sizeOf_run h1, hl], .agg _ _ (by simp; omega) fun j q hj => ?_⟩
        rw [List.getElem?_take] at hj
        split at hj
        · rename_i hlt
          rw [List.getElem?_drop] at hj
          have e : (((List.range i.size).map f).toArray).getD j undef = f j := by simp [hlt]
          rw [e]
          exact hr _ _ hj
        · cases hj
      · cases h
    | false =>
      rw [hd] at h
      simp only [Bool.false_eq_true, if_false] at h
      have h0 := hc 0 p (by simpa using h)
      rw [Addr.add_zero'] at h0
      exact ⟨f 0, by simp [isAgg_run h2, hd, run_load, h0], hr 0 p (by simpa using h)⟩
end
end Go.Proofs.YtgagnohelibaoaaDoor
