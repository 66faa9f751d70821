import Derived.Test.YtgagnohelibaoaaDoorU
/-! That an operation that makes or writes memory comes to what it comes to without. -/
set_option linter.unusedSimpArgs false
set_option linter.unusedVariables false
namespace Go.Proofs.YtgagnohelibaoaaDoor
open Go.RowKit

def applyW (H : Nat → Option HObj) : List (Nat × Option HObj) → Nat → Option HObj
  | [] => H
  | (n, o) :: ws => applyW (upd H n o) ws
/-- The names that are met behind an operation. -/
def moreD (D : Nat → Prop) (nb : Nat) : Nat → Prop := fun m => D m ∨ (nb ≤ m ∧ m < nb + 8)

section
variable {P : Program} {nt : Nat} {w0 : World} {S0 : Addr → Prop} {E : List (PV × Value)} {S : Addr → Prop} {μ : Nat → Value} {st : St} {a : Act} {w : World} {r : Res} {o : Oper} {nb : Nat}

/-- The operation comes to a value, memory comes on. -/
def Moves (P : Program) (nt : Nat) (w0 : World) (S0 : Addr → Prop) (E : List (PV × Value)) (st : St) (a : Act) (w : World) (o : Oper) (nb : Nat) (r : Res) : Prop :=
  ∃ x v w' S' μ', (execOp a.eval o).run P w = .ok x w' ∧ (x = .value v ∨ (x = .skip ∧ v = undef)) ∧ Sim nt w0 S0 E S' μ' { T := st.T, H := applyW st.H r.wr, D := moreD st.D nb } a w' ∧ Rel S' μ' (moreD st.D nb) w' r.val v

theorem Still.moves (h : Sim nt w0 S0 E S μ st a w) (hs : Still P S μ st.D w a.eval o r) (hw : r.wr = []) : Moves P nt w0 S0 E st a w o nb r := by
  obtain ⟨v, hv, hr⟩ := hs
  refine ⟨_, v, w, S, μ, hv, .inl rfl, ?_, hr.mono (fun _ h => h) (fun _ _ => rfl) (fun _ h => .inl h) (fun _ _ => rfl)⟩
  rw [hw]
  exact h.more (D' := moreD st.D nb) (fun _ h => .inl h)

theorem ofVal_cells (z : Value) : ∀ (i : Nat) p, (ofVal z).cells[i]? = some p → ∃ u, z.cells[i]? = some u ∧ Rel S μ st.D w p u := by
  intro i p hp
  unfold ofVal at hp
  split at hp
  · rename_i cs
    simp only [PV.cells, List.getElem?_map, Array.getElem?_toList] at hp
    simp only [Value.cells]
    cases hc : cs[i]? with
    | none => rw [hc] at hp; cases hp
    | some u =>
      rw [hc] at hp
      simp only [Option.map_some, Option.some.injEq] at hp
      subst hp
      exact ⟨u, rfl, rel_ofValC u⟩
  · rename_i hna
    have h1 : z.cells = #[z] := by cases z <;> first | rfl | exact absurd rfl (hna _)
    have h2 : (ofValC z).cells = [ofValC z] := by unfold ofValC; split <;> rfl
    rw [h2] at hp
    rw [h1]
    cases i with
    | zero => simp at hp; subst hp; exact ⟨z, rfl, rel_ofValC z⟩
    | succ i => simp at hp
theorem nb_fresh (hnb : ∀ j, j < 8 → ¬ st.D (nb + j)) : ¬ st.D nb := hnb 0 (by omega)
theorem one_more {o' : HObj} (h : Sim nt w0 S0 E S μ { T := st.T, H := upd st.H nb (some o'), D := fun m => st.D m ∨ m = nb } a w) : Sim nt w0 S0 E S μ { T := st.T, H := upd st.H nb (some o'), D := moreD st.D nb } a w :=
  h.more (D' := moreD st.D nb) (fun m hm => by
    rcases hm with hm | hm
    · exact .inl hm
    · exact .inr ⟨by omega, by omega⟩)

theorem mv_alloc {t : TypeId} (ho : o.op = .alloc t) {ty : Ty} (ht : tyOf P t = some ty) (h : Sim nt w0 S0 E S μ st a w) (hnb : ∀ j, j < 8 → ¬ st.D (nb + j)) (hr : r = ⟨True, .ptr nb 0, [], [(nb, some (.box ty.zero.cells))]⟩) :
    Moves P nt w0 S0 E st a w o nb r := by
  obtain ⟨i, d, z, h1, h2, h3, rfl⟩ := tyOf_inv ht
  subst hr
  refine ⟨_, .pointer (some ⟨w.heap.size, 0, none⟩), w.alloc (.cells z.cells t), S, _, ?_, .inl rfl, one_more (h.box nb (nb_fresh hnb) _ z.cells t (ofVal_cells z)), .ptr nb 0 w.heap.size (.inr ⟨by omega, by omega⟩) (upd_same _ _ _)⟩
  unfold execOp
  simp only [ho]
  simp [Instr.alloc, zeroValue, typeInfo, h1, h3, newVar, newRow]
theorem mv_box {t : TypeId} {x : Operand} (ho : o.op = .box t x) {q : PV} (hq : Rel S μ st.D w q (a.eval x)) (hf : q.fit = true) (h : Sim nt w0 S0 E S μ st a w) (hnb : ∀ j, j < 8 → ¬ st.D (nb + j)) (hr : r = ⟨True, .ptr nb 0, [], [(nb, some (.box q.cells))]⟩) :
    Moves P nt w0 S0 E st a w o nb r := by
  subst hr
  obtain ⟨hs, hc⟩ := rel_cells hq (fit_or hf)
  refine ⟨_, .pointer (some ⟨w.heap.size, 0, none⟩), w.alloc (.cells (a.eval x).cells t), S, _, ?_, .inl rfl, one_more (h.box nb (nb_fresh hnb) _ (a.eval x).cells t (fun i p hp => ?_)), .ptr nb 0 w.heap.size (.inr ⟨by omega, by omega⟩) (upd_same _ _ _)⟩
  · unfold execOp
    simp only [ho]
    simp [Instr.box, newVar, newRow]
  · have hlt : i < (a.eval x).cells.size := by rw [hs]; exact (List.getElem?_eq_some_iff.1 hp).1
    refine ⟨(a.eval x).cells.getD i undef, by simp [hlt], hc i p hp⟩

theorem setCells_heap (b : Nat) : ∀ (vs : List Value) (o : Nat) (w : World), (w.setCells b o vs).heap.size = w.heap.size ∧ (∀ k, k ≠ b → (w.setCells b o vs).heap[k]? = w.heap[k]?) ∧ (w.setCells b o vs).os = w.os ∧ (w.setCells b o vs).tape = w.tape ∧ (w.setCells b o vs).output = w.output
  | [], _, _ => ⟨rfl, fun _ _ => rfl, rfl, rfl, rfl⟩
  | v :: r, o, w => by
    obtain ⟨h1, h2, h3, h4, h5⟩ := setCells_heap b r (o + 1) (w.setCell ⟨b, o, none⟩ v)
    refine ⟨by rw [World.setCells, h1]; simp [World.setCell], fun k hk => ?_, h3, h4, h5⟩
    rw [World.setCells, h2 k hk]
    exact Below.heap_setCell w ⟨b, o, none⟩ v k hk
theorem mv_store {t : TypeId} {x y : Operand} (ho : o.op = .store t x y) {px py : PV} (hev : storeE P t st.H px py = some r) (hx : Rel S μ st.D w px (a.eval x)) (hy : Rel S μ st.D w py (a.eval y)) (h : Sim nt w0 S0 E S μ st a w) :
    Moves P nt w0 S0 E st a w o nb r := by
  unfold storeE at hev
  split at hev
  · rename_i nm off
    split at hev
    · rename_i cs hcs
      split at hev
      · rename_i ty hty
        split at hev
        · rename_i hc
          cases hev
          obtain ⟨hfit, hlen, hle, hone⟩ := hc
          obtain ⟨i, d, z, h1, h2, h3, rfl⟩ := tyOf_inv hty
          simp only at hlen hle
          obtain ⟨g, e, hD, hg⟩ := rel_ptr hx
          obtain ⟨g', hg', hB, hlt, hcell, hfr, hS⟩ := h.heap nm _ hcs
          rw [hg] at hg'
          have hgg : g' = g := by injection hg' with h; injection h with h; injection h with h; exact h.symm
          subst hgg
          obtain ⟨hsz, hcr⟩ := rel_cells hy (fit_or hfit)
          have hone' : ∀ v ∈ (a.eval y).cells.toList, v.oneCell' = true := by
            intro v hv
            obtain ⟨j, hj⟩ := List.getElem?_of_mem hv
            rw [Array.getElem?_toList] at hj
            have hjl := (Array.getElem?_eq_some_iff.1 hj).1
            have hp : py.cells[j]? = some (py.cells[j]'(by omega)) := List.getElem?_eq_getElem _
            have := hcr j _ hp
            have e2 : (a.eval y).cells.getD j undef = v := by simp [Array.getD_eq_getD_getElem?, hj]
            rw [e2] at this
            exact one_one this (List.all_eq_true.1 hone _ (List.getElem_mem _))
          have hrun := run_storeCells_cells (P := P) g' off (a.eval y).cells.toList 0 w (fun j hj => by
              have : off + 0 + j < cs.length := by simp at hj; omega
              obtain ⟨u, hu, _⟩ := hcell (off + 0 + j) _ (List.getElem?_eq_getElem this)
              rw [hu]; rfl) (fun j hj => hfr _ (by simp at hj; omega)) hone'
          rw [Nat.add_zero] at hrun
          have hh := setCells_heap g' (a.eval y).cells.toList off w
          have hcw : ∀ b, S b → (w.setCells g' off (a.eval y).cells.toList).cell? b = w.cell? b := fun b hb =>
            World.cell?_of_block (hh.2.1 b.block (fun e => hS b e hb))
          refine ⟨_, undef, w.setCells g' off (a.eval y).cells.toList, S, μ, ?_, .inr ⟨rfl, rfl⟩, ?_, .c (.undef _)⟩
          · unfold execOp
            simp only [ho, e]
            have hne : ¬ ((a.eval y).cells.size ≠ i.size) := by omega
            simp only [Instr.storeAt, Instr.sureAddr, Sem.run_bind, Sem.run_pure, Result.andThen_ok, storeVar, sizeOf_run h1, if_neg hne, hrun]
          · refine (h.on (H' := upd st.H nm (some (.box (setL cs off py.cells)))) (D' := st.D) (fun _ h => h) hcw (fun _ h => h) (fun _ _ => rfl) ?_ ?_ ?_ ?_ (fun _ _ h => h) (fun b hb => by rw [hh.1]; exact h.slt b hb)).more (D' := moreD st.D nb) (fun m hm => .inl hm)
            · intro m o' hm
              by_cases em : m = nm
              · subst em
                rw [upd_same] at hm
                cases hm
                refine ⟨g', hg, hB, by rw [hh.1]; exact hlt, fun j p hp => ?_, fun j hj => by rw [World.frozen?_setCells]; exact hfr j (by rw [setL_len] at hj; exact hj), hS⟩
                rw [setL_get _ _ _ (by omega)] at hp
                have hall : ∀ j, j < (a.eval y).cells.toList.length → (w.cell? ⟨g', off + j, none⟩).isSome = true := fun j hj => by
                  have : off + j < cs.length := by simp at hj; omega
                  obtain ⟨u, hu, _⟩ := hcell (off + j) _ (List.getElem?_eq_getElem this)
                  rw [hu]; rfl
                split at hp
                · rename_i hin
                  have hjl : j - off < (a.eval y).cells.toList.length := by simp; omega
                  have := World.cell?_setCells_in g' (a.eval y).cells.toList off w hall (j - off) hjl
                  rw [show off + (j - off) = j by omega] at this
                  refine ⟨_, this, ?_⟩
                  have hr := (hcr (j - off) p hp).mono (S' := S) (μ' := μ) (D' := st.D) (fun _ h => h) hcw (fun _ h => h) (fun _ _ => rfl)
                  have e3 : (a.eval y).cells.toList[j - off] = (a.eval y).cells.getD (j - off) undef := by
                    have : j - off < (a.eval y).cells.size := by simpa using hjl
                    simp [this]
                  rw [e3]
                  exact hr
                · rename_i hout
                  obtain ⟨u, hu, hr⟩ := hcell j p hp
                  refine ⟨u, ?_, hr.mono (fun _ h => h) hcw (fun _ h => h) (fun _ _ => rfl)⟩
                  rw [World.cell?_setCells_out g' _ off w _ (fun _ _ => by simp; omega)]
                  exact hu
              · rw [upd_ne _ _ em] at hm
                refine (h.heap m o' hm).keep (fun _ h => h) hcw (fun _ h => h) (fun _ _ => rfl) (h.lt hm) (by rw [hh.1]; exact Nat.le_refl _) (fun gm hgm => ⟨hh.2.1 gm (fun e => ?_), fun _ _ h => h⟩)
                subst e
                exact h.apart m nm o' _ hm hcs em gm hgm (by rw [hg]; rfl)
            · intro m m' o1 o2 hm hm' hne gm hgm
              have f1 : ∀ m o', upd st.H nm (some (.box (setL cs off py.cells))) m = some o' → ∃ o'', st.H m = some o'' := by
                intro m o' hm
                by_cases em : m = nm
                · subst em; exact ⟨_, hcs⟩
                · rw [upd_ne _ _ em] at hm; exact ⟨_, hm⟩
              obtain ⟨p1, hp1⟩ := f1 m o1 hm
              obtain ⟨p2, hp2⟩ := f1 m' o2 hm'
              exact h.apart m m' p1 p2 hp1 hp2 hne gm hgm
            · intro m hm
              rw [upd_ne _ _ (fun e : m = nm => hm (by rw [e]; exact hD))]
              exact h.fresh m hm
            · exact ⟨hh.2.2.1, hh.2.2.2.1, hh.2.2.2.2, by rw [hh.1]; exact Nat.le_refl _, fun k hk => hh.2.1 k (by omega)⟩
        · cases hev
      · cases hev
    · cases hev
  · cases hev

theorem range_modify (n : Nat) (z : Array Value) : ((Array.range n).map (z[· % z.size]!)).size = n := by simp
theorem mv_bsl {t : TypeId} {len : Nat} {parts : Array (Nat × Operand)} (ho : o.op = .buildSlice t len parts) {p : Operand → PV} {own : Bool} (hev : bslE P t len (parts.toList.map (·.1)) ((parts.toList.map (·.2)).map p) own nb = some r)
    (hx : ∀ x, Rel S μ st.D w (p x) (a.eval x)) (h : Sim nt w0 S0 E S μ st a w) (hnb : ∀ j, j < 8 → ¬ st.D (nb + j)) : Moves P nt w0 S0 E st a w o nb r := by
  unfold bslE at hev
  split at hev
  · rename_i ag sz by_ z e ht
    obtain ⟨i, d, z', h1, h2, h3, hty⟩ := tyOf_inv ht
    have hd := shp_slice (P := P) (d := d) (e := e) (by injection hty with _ _ _ _ h5; exact h5.symm)
    subst hd
    split at hev
    · rename_i te hte
      obtain ⟨i2, d2, z2, a2, b2, c2, e2⟩ := tyOf_inv hte
      have hsz : te.size = i2.size := by rw [e2]
      split at hev
      · rename_i hc
        obtain ⟨hidx, hlen, hsmall, hne, hzc⟩ := hc
        rw [hsz] at hsmall hne
        split at hev
        · rename_i xs hxs
          rw [hsz] at hxs
          have hpl : parts.toList.length = len := by simpa using hlen
          obtain ⟨k1, k2, arr', k3, k4, k5, k6⟩ := elems_fill (size := i2.size) hx parts.toList 0 len ((Array.range (len * i2.size)).map (z2.cells[· % z2.cells.size]!)) xs (by rw [hidx, hpl, List.range_eq_range']) (by omega) (range_modify _ _) hxs
          have hxl : xs.length = len := by omega
          have hrun : (execOp a.eval o).run P w = .ok (.value (.slice (some ⟨w.heap.size, 0, none⟩) len len)) (w.alloc (.cells arr' e)) := by
            unfold execOp
            simp only [ho]
            have hparts : (parts.map fun (i, x) => (i, a.eval x)).toList = parts.toList.map fun (i, x) => (i, a.eval x) := by simp
            by_cases hz : len = 0
            · have hxs0 : parts = #[] := by
                apply Array.eq_empty_of_size_eq_zero
                simpa using hpl.trans hz
              subst hxs0
              simp only [List.map_nil, Instr.fill, Option.some.injEq] at k3
              subst hz
              simp only [Nat.zero_mul] at k3
              subst k3
              simp [Instr.buildSlice, run_underlying h2, sizeOf_run a2, Instr.fill, newRow, Array.range_zero']
            · have hpos : ¬ len * i2.size = 0 := by
                rw [Nat.mul_eq_zero]; omega
              rw [← hparts] at k3
              have := run_buildSlice (P := P) w t e len (parts.map fun (i, x) => (i, a.eval x)) arr' i2 z2 h2 a2 c2 (by omega) hpos k3
              simp [this]
          have hb := (Below.refl w.heap.size w).alloc (Nat.le_refl _) (.cells arr' e)
          have hheap : (w.alloc (.cells arr' e)).heap[w.heap.size]? = some (.cells arr' e (0, 0)) := by
            show (w.heap.push (.cells arr' e))[w.heap.size]? = _
            simp
          have hlm : len ≤ maxLen := by
            have : len * 1 ≤ len * i2.size := Nat.mul_le_mul_left _ (by omega)
            unfold maxLen
            omega
          have hone : ∀ i j, (if (arr'.getD (i * i2.size + j) undef).oneCell' = true then arr'.getD (i * i2.size + j) undef else Value.nilFunc).oneCell' = true := by
            intro i j
            split
            · assumption
            · rfl
          obtain ⟨s1, s2⟩ := h.row hb hheap xs i2.size len (by omega) hlm k2 (fun i j => if (arr'.getD (i * i2.size + j) undef).oneCell' = true then arr'.getD (i * i2.size + j) undef else Value.nilFunc) hone (by
            intro i j x q hi hq
            obtain ⟨r1, r2⟩ := k6 i j x q hi hq
            rw [Nat.zero_add] at r1 r2
            simp only [r2, if_true]
            refine ⟨?_, r1⟩
            have hi' := (List.getElem?_eq_some_iff.1 hi).1
            have hj : j < i2.size := by
              have := (List.getElem?_eq_some_iff.1 hq).1
              have := k2 x (List.mem_of_getElem? hi)
              omega
            have hlt : i * i2.size + j < arr'.size := by
              have : (i + 1) * i2.size ≤ len * i2.size := Nat.mul_le_mul_right _ (by omega)
              rw [Nat.add_mul] at this
              omega
            simp [hlt])
          rw [hxl] at s1 s2
          split at hev
          · cases hev
            have s3 := s1.name nb (nb_fresh hnb) (.slice (some ⟨w.heap.size, 0, none⟩) len len) (.tok e te.size len) (by
              rw [hsz]
              refine ⟨arr'.toList, h.two nb (nb_fresh hnb), ?_, ?_⟩
              · rw [upd_same]
                refine ⟨by simpa using k4, .inr ⟨w.heap.size, len, arr', rfl, h.below.size, hheap, Nat.le_refl _, hlm, k4, ?_⟩⟩
                rw [List.take_of_length_le (by simp [k4])]
              · intro b hb' hn hs
                rw [upd_same] at hb'
                have hbb : b.block = w.heap.size := by simpa [blk] using hb'.symm
                rcases hs with hs | ⟨_, hs, _⟩
                · have := (h.slt b hs).1; omega
                · omega) (fun m o' hm g hg hg' => by
                have := hrel_blk (h.heap m o' hm) g hg
                have e5 : w.heap.size = g := by simpa [blk] using hg'
                omega)
            refine ⟨_, _, _, _, _, hrun, .inl rfl, one_more s3, .tok nb xs _ ?_ (.inr ⟨by omega, by omega⟩) (upd_same _ _ _).symm s2⟩
            have := hnb 0 (by omega)
            have h2 := h.two nb this
            omega
          · rw [qv_inv hev]
            exact ⟨_, _, _, _, _, hrun, .inl rfl, s1.more (D' := moreD st.D nb) (fun m hm => .inl hm), .c s2⟩
        · cases hev
      · cases hev
    · cases hev
  · cases hev
end
end Go.Proofs.YtgagnohelibaoaaDoor
