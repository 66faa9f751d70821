import Derived.Test.YtgagnohelibaoaaDoorT
import Derived.Great.BuildSlice
/-! That an operation that makes or writes memory comes to what it comes to without. -/
set_option linter.unusedSimpArgs false
set_option linter.unusedVariables false
namespace Go.Proofs.YtgagnohelibaoaaDoor
open Go.RowKit

theorem fit_or {q : PV} (h : q.fit = true) : q.one = true ∨ ∃ cs, q = .agg cs := by cases q <;> first | exact .inl h | exact .inr ⟨_, rfl⟩

section
variable {P : Program} {S : Addr → Prop} {μ : Nat → Value} {D : Nat → Prop} {w : World} {r : Res} {ρ : Operand → Value} {o : Oper} {p : Operand → PV}

theorem fill_rel {placeP place : Nat → Option (Nat × Nat)} (hpl : ∀ i x, placeP i = some x → place i = some x) (hx : ∀ x, Rel S μ D w (p x) (ρ x)) : ∀ (parts : List (Nat × Operand)) (zs cs : List PV) (arr : Array Value),
    fillP placeP zs (parts.map (·.1)) ((parts.map (·.2)).map p) = some cs → arr.size = zs.length → (∀ (i : Nat) q, zs[i]? = some q → Rel S μ D w q (arr.getD i undef)) →
    ∃ arr', Instr.fill place arr (parts.map fun (i, x) => (i, ρ x)) = some arr' ∧ arr'.size = cs.length ∧ ∀ (i : Nat) q, cs[i]? = some q → Rel S μ D w q (arr'.getD i undef)
  | [], zs, cs, arr, h, hs, hr => by
    simp only [List.map_nil, fillP, Option.some.injEq] at h
    subst h
    exact ⟨arr, rfl, hs, hr⟩
  | (i, x) :: parts, zs, cs, arr, h, hs, hr => by
    simp only [List.map_cons, fillP] at h
    cases hp : placeP i with
    | none => rw [hp] at h; cases h
    | some os =>
      obtain ⟨off, size⟩ := os
      rw [hp] at h
      simp only at h
      split at h
      · rename_i hc
        obtain ⟨hf, hl, hle⟩ := hc
        obtain ⟨hcs, hcr⟩ := rel_cells (hx x) (fit_or hf)
        have hput := putV_get arr off (ρ x)
        have := fill_rel hpl hx parts (setL zs off (p x).cells) cs (putV arr off (ρ x)) h (by rw [hput.1, setL_len, hs]) (by
          intro j q hj
          have hjl : j < arr.size := by
            have := (List.getElem?_eq_some_iff.1 hj).1
            rw [setL_len] at this
            omega
          rw [setL_get _ _ _ (by omega)] at hj
          rw [hput.2 j hjl]
          split at hj
          · rename_i hin
            rw [if_pos (by omega)]
            exact hcr _ _ hj
          · rename_i hin
            rw [if_neg (by omega)]
            exact hr _ _ hj)
        obtain ⟨arr', h1, h2, h3⟩ := this
        refine ⟨arr', ?_, h2, h3⟩
        simp only [List.map_cons, Instr.fill, hpl i _ hp]
        have hno : ¬ ((decide ((ρ x).cells.size ≠ size) || decide (off + (ρ x).cells.size > arr.size)) = true) := by simp; omega
        rw [if_neg hno]
        exact h1
      · cases h
theorem st_build {t : TypeId} {parts : Array (Nat × Operand)} (ho : o.op = .build t parts) (h : buildE P t (parts.toList.map (·.1)) ((parts.toList.map (·.2)).map p) = some r) (hx : ∀ x, Rel S μ D w (p x) (ρ x)) : Still P S μ D w ρ o r := by
  unfold buildE at h
  have hparts : (parts.map fun (i, x) => (i, ρ x)).toList = parts.toList.map fun (i, x) => (i, ρ x) := by simp
  split at h
  · rename_i ag sz by_ z fs ht
    obtain ⟨i, d, z', h1, h2, h3, hty⟩ := tyOf_inv ht
    injection hty with _ _ _ e4 e5
    obtain ⟨fields, rfl, hfs, hall⟩ := shp_strct' (P := P) (d := d) (fs := fs) e5.symm
    obtain ⟨arr, hz', hzs, hzr⟩ := rel_agg (S := S) (μ := μ) (D := D) (w := w) (by rw [e4]; exact rel_ofVal z')
    split at h
    · rename_i cs hcs
      rw [qv_inv h]
      have hplaces : ∃ places, fields.toList.mapM (fun f => (P.info? f.type).map fun i => (f.offset, i.size)) = some places ∧ ∀ (i : Nat) (x : Nat × Nat), (match fs[i]? with | some (o, _, s) => some (o, s) | none => none) = some x → places[i]? = some x := by
        subst hfs
        clear h1 h2 ht e5
        generalize fields.toList = fl at hall
        induction fl with
        | nil => exact ⟨[], by simp, fun i x h => by simp at h⟩
        | cons f fl ih =>
          obtain ⟨places, hp1, hp2⟩ := ih (fun f hf => hall f (List.mem_cons_of_mem _ hf))
          obtain ⟨fi, hfi⟩ := hall f (List.mem_cons_self)
          refine ⟨(f.offset, fi.size) :: places, by simp [List.mapM_cons, hfi, hp1], fun i x h => ?_⟩
          cases i with
          | zero =>
            simp [cellsOf_eq hfi] at h
            simp [h]
          | succ i => exact hp2 i x (by simpa using h)
      obtain ⟨places, hp1, hp2⟩ := hplaces
      obtain ⟨arr', hf1, hf2, hf3⟩ := fill_rel (p := p) (ρ := ρ) (place := (places[·]?)) hp2 hx parts.toList z cs arr hcs hzs hzr
      refine ⟨.agg arr', ?_, .agg _ _ hf2 hf3⟩
      unfold execOp
      simp only [ho]
      have hrun : (Instr.build t (parts.map fun (i, x) => (i, ρ x))).run P w = .ok (.agg arr') w := by
        refine run_build w t _ arr' ?_
        unfold Program.built
        simp only [h1, h2, h3, hz', hparts]
        simp [hp1, Value.cells, hf1]
      simp [hrun]
    · cases h
  · rename_i ag sz by_ z n e ht
    obtain ⟨i, d, z', h1, h2, h3, hty⟩ := tyOf_inv ht
    injection hty with _ _ _ e4 e5
    have hd := shp_array (P := P) (d := d) e5.symm
    subst hd
    obtain ⟨arr, hz', hzs, hzr⟩ := rel_agg (S := S) (μ := μ) (D := D) (w := w) (by rw [e4]; exact rel_ofVal z')
    split at h
    · rename_i te hte
      obtain ⟨i2, d2, z2, a2, b2, c2, e2⟩ := tyOf_inv hte
      have hsz : te.size = i2.size := by rw [e2]
      split at h
      · rename_i cs hcs
        rw [qv_inv h]
        obtain ⟨arr', hf1, hf2, hf3⟩ := fill_rel (p := p) (ρ := ρ) (place := fun i => some (i * i2.size, i2.size)) (fun i x hi => by rw [hsz] at hi; exact hi) hx parts.toList z cs arr hcs hzs hzr
        refine ⟨.agg arr', ?_, .agg _ _ hf2 hf3⟩
        unfold execOp
        simp only [ho]
        have hrun : (Instr.build t (parts.map fun (i, x) => (i, ρ x))).run P w = .ok (.agg arr') w := by
          refine run_build w t _ arr' ?_
          unfold Program.built
          simp only [h1, h2, h3, hz', hparts, a2]
          simp [Value.cells, hf1]
        simp [hrun]
      · cases h
    · cases h
  · cases h
theorem one_one {q : PV} {v : Value} (h : Rel S μ D w q v) (hq : q.one = true) : v.oneCell' = true := by
  cases q with
  | undef => cases hq
  | agg cs => cases hq
  | tup cs => cases hq
  | lit x => have e := rel_lit h; subst e; exact hq
  | bool b => have e := rel_bool h; subst e; rfl
  | int k n => have e := rel_int h; subst e; rfl
  | str l => have e := rel_str h; subst e; rfl
  | sl t xs => obtain ⟨A, c, e, _⟩ := crel_sl (rel_sl h); subst e; rfl
  | ptr nm off => obtain ⟨g, e, _⟩ := rel_ptr h; subst e; rfl
  | bs nm off k n m => obtain ⟨g, oo, c, e, _⟩ := rel_bs h; subst e; rfl
  | mp nm => obtain ⟨g, e, _⟩ := rel_mp h; subst e; rfl
  | iptr cs => obtain ⟨ad, u, e, _⟩ := rel_iptr h; subst e; rfl
  | clo f a b => obtain ⟨fs, cs, e, _⟩ := rel_clo h; subst e; rfl

/-- The elements that are put into a new row. -/
theorem elems_fill {size : Nat} (hx : ∀ x, Rel S μ D w (p x) (ρ x)) : ∀ (parts : List (Nat × Operand)) (k len : Nat) (arr : Array Value) (xs : List (List PV)), parts.map (·.1) = List.range' k parts.length → k + parts.length ≤ len → arr.size = len * size →
    elemsE size ((parts.map (·.2)).map p) = some xs →
    xs.length = parts.length ∧ (∀ x ∈ xs, x.length = size) ∧ ∃ arr', Instr.fill (fun i => some (i * size, size)) arr (parts.map fun (i, x) => (i, ρ x)) = some arr' ∧ arr'.size = len * size ∧ (∀ i, i < k * size → arr'.getD i undef = arr.getD i undef) ∧
      ∀ (i j : Nat) x q, xs[i]? = some x → x[j]? = some q → CRel S w q (arr'.getD ((k + i) * size + j) undef) ∧ (arr'.getD ((k + i) * size + j) undef).oneCell' = true
  | [], k, len, arr, xs, _, _, hs, h => by
    simp only [List.map_nil, elemsE, Option.some.injEq] at h
    subst h
    exact ⟨rfl, fun x h => by simp at h, arr, rfl, hs, fun _ _ => rfl, fun i j x q h => by simp at h⟩
  | (n, x) :: parts, k, len, arr, xs, hidx, hle, hs, h => by
    simp only [List.map_cons, List.length_cons, List.range'_succ, List.cons.injEq] at hidx
    obtain ⟨rfl, hidx⟩ := hidx
    simp only [List.length_cons] at hle
    simp only [List.map_cons, elemsE] at h
    split at h
    · rename_i hc
      obtain ⟨hf, hl, hone⟩ := hc
      split at h
      · rename_i c hcL
        split at h
        · rename_i cs hcs
          cases h
          obtain ⟨hsz, hcr⟩ := rel_cells (hx x) (fit_or hf)
          have hput := putV_get arr (n * size) (ρ x)
          obtain ⟨i1, i2, arr', i3, i4, i5, i6⟩ := elems_fill hx parts (n + 1) len (putV arr (n * size) (ρ x)) cs hidx (by omega) (by rw [hput.1, hs]) hcs
          obtain ⟨hcl, hcg⟩ := stripL_get hcL
          have hb : (n + 1) * size ≤ len * size := Nat.mul_le_mul_right _ (by omega)
          rw [Nat.add_mul, Nat.one_mul] at hb
          refine ⟨by simp [i1], ?_, arr', ?_, i4, ?_, ?_⟩
          · intro y hy
            rcases List.mem_cons.1 hy with rfl | hy
            · omega
            · exact i2 y hy
          · simp only [List.map_cons, Instr.fill]
            have hno : ¬ ((decide ((ρ x).cells.size ≠ size) || decide (n * size + (ρ x).cells.size > arr.size)) = true) := by simp; omega
            rw [if_neg hno]
            exact i3
          · intro i hi
            rw [i5 i (by rw [Nat.add_mul]; omega), hput.2 i (by rw [hs]; omega), if_neg (by omega)]
          · intro i j y q hi hq
            cases i with
            | zero =>
              simp only [List.getElem?_cons_zero, Option.some.injEq] at hi
              subst hi
              have hj : j < size := by have := (List.getElem?_eq_some_iff.1 hq).1; omega
              rw [Nat.add_zero, i5 _ (by rw [Nat.add_mul]; omega), hput.2 _ (by rw [hs]; omega), if_pos (by rw [hsz, hl]; omega), show n * size + j - n * size = j by omega]
              obtain ⟨q0, hq0, hq1⟩ := hcg j q hq
              have hr := hcr j q0 hq0
              exact ⟨rel_stripC hr hq1, one_one hr (List.all_eq_true.1 hone q0 (List.mem_of_getElem? hq0))⟩
            | succ i =>
              have := i6 i j y q (by simpa using hi) hq
              rwa [show n + 1 + i = n + (i + 1) by omega] at this
        · cases h
      · cases h
    · cases h
end
end Go.Proofs.YtgagnohelibaoaaDoor
