import Derived.Test.YtgagnohelibaoaaDoorE
import Derived.MapKept
/-! Slices in boxes, and maps: that an operation upon them comes to what it comes to without memory. -/
set_option linter.unusedSimpArgs false
set_option linter.unusedVariables false
namespace Go.Proofs.YtgagnohelibaoaaDoor
open Go.RowKit

section
variable {P : Program} {nt : Nat} {w0 : World} {S0 : Addr → Prop} {E : List (PV × Value)} {S : Addr → Prop} {μ : Nat → Value} {st : St} {a : Act} {w : World} {r : Res} {o : Oper} {nb : Nat}

/-- Cells of a box are written. -/
theorem sim_write (h : Sim nt w0 S0 E S μ st a w) {nm g : Nat} {cs : List PV} (hcs : st.H nm = some (.box cs)) (hg : μ nm = .pointer (some ⟨g, 0, none⟩)) (vs : List Value) (ps : List PV) (off : Nat) (hlen : vs.length = ps.length) (hle : off + ps.length ≤ cs.length)
    (hone : ∀ v ∈ vs, v.oneCell' = true) (hrel : ∀ (j : Nat) p, ps[j]? = some p → Rel S μ st.D w p (vs.getD j undef)) :
    (storeCells ⟨g, off, none⟩ vs).run P w = .ok () (w.setCells g off vs) ∧ Sim nt w0 S0 E S μ { T := st.T, H := upd st.H nm (some (.box (setL cs off ps))), D := st.D } a (w.setCells g off vs) := by
  have hD := h.lt hcs
  obtain ⟨g', hg', hB, hlt, hcell, hfr, hS⟩ := h.heap nm _ hcs
  rw [hg] at hg'
  have hgg : g' = g := by injection hg' with h; injection h with h; injection h with h; exact h.symm
  subst hgg
  have hrun := run_storeCells_cells (P := P) g' off vs 0 w (fun j hj => by
    have : off + 0 + j < cs.length := by omega
    obtain ⟨u, hu, _⟩ := hcell (off + 0 + j) _ (List.getElem?_eq_getElem this)
    rw [hu]; rfl) (fun j hj => hfr _ (by omega)) hone
  rw [Nat.add_zero] at hrun
  have hh := setCells_heap g' vs off w
  have hcw : ∀ b, S b → (w.setCells g' off vs).cell? b = w.cell? b := fun b hb =>
    World.cell?_of_block (hh.2.1 b.block (fun e => hS b e hb))
  refine ⟨hrun, ?_⟩
  refine h.on (H' := upd st.H nm (some (.box (setL cs off ps)))) (D' := st.D) (fun _ h => h) hcw (fun _ h => h) (fun _ _ => rfl) ?_ ?_ ?_ ?_ (fun _ _ h => h) (fun b hb => by rw [hh.1]; exact h.slt b hb)
  · intro m o' hm
    by_cases em : m = nm
    · subst em
      rw [upd_same] at hm
      cases hm
      refine ⟨g', hg, hB, by rw [hh.1]; exact hlt, fun j p hp => ?_, fun j hj => by rw [World.frozen?_setCells]; exact hfr j (by rw [setL_len] at hj; exact hj), hS⟩
      rw [setL_get _ _ _ (by omega)] at hp
      have hall : ∀ j, j < vs.length → (w.cell? ⟨g', off + j, none⟩).isSome = true := fun j hj => by
        have : off + j < cs.length := by omega
        obtain ⟨u, hu, _⟩ := hcell (off + j) _ (List.getElem?_eq_getElem this)
        rw [hu]; rfl
      split at hp
      · rename_i hin
        have hjl : j - off < vs.length := by omega
        have := World.cell?_setCells_in g' vs off w hall (j - off) hjl
        rw [show off + (j - off) = j by omega] at this
        refine ⟨_, this, ?_⟩
        have hr := (hrel (j - off) p hp).mono (S' := S) (μ' := μ) (D' := st.D) (fun _ h => h) hcw (fun _ h => h) (fun _ _ => rfl)
        have e3 : vs[j - off] = vs.getD (j - off) undef := by simp [List.getD, List.getElem?_eq_getElem hjl]
        rw [e3]
        exact hr
      · rename_i hout
        obtain ⟨u, hu, hr⟩ := hcell j p hp
        refine ⟨u, ?_, hr.mono (fun _ h => h) hcw (fun _ h => h) (fun _ _ => rfl)⟩
        rw [World.cell?_setCells_out g' _ off w _ (fun _ _ => by simp; omega)]
        exact hu
    · rw [upd_ne _ _ em] at hm
      refine (h.heap m o' hm).keep (fun _ h => h) hcw (fun _ h => h) (fun _ _ => rfl) (h.lt hm) (by rw [hh.1]; exact Nat.le_refl _) (fun gm hgm => ⟨hh.2.1 gm (fun e => ?_), fun _ _ h => h⟩)
      subst e
      exact h.apart m nm o' _ hm hcs em gm hgm (by rw [hg]; rfl)
  · intro m m' o1 o2 hm hm' hne gm hgm
    have f1 : ∀ m o', upd st.H nm (some (.box (setL cs off ps))) m = some o' → ∃ o'', st.H m = some o'' := by
      intro m o' hm
      by_cases em : m = nm
      · subst em; exact ⟨_, hcs⟩
      · rw [upd_ne _ _ em] at hm; exact ⟨_, hm⟩
    obtain ⟨p1, hp1⟩ := f1 m o1 hm
    obtain ⟨p2, hp2⟩ := f1 m' o2 hm'
    exact h.apart m m' p1 p2 hp1 hp2 hne gm hgm
  · intro m hm
    rw [upd_ne _ _ (fun e : m = nm => hm (by rw [e]; exact hD))]
    exact h.fresh m hm
  · exact ⟨hh.2.2.1, hh.2.2.2.1, hh.2.2.2.2, by rw [hh.1]; exact Nat.le_refl _, fun k hk => hh.2.1 k (by omega)⟩

/-- The cells of a box, read. -/
theorem box_cells (h : Sim nt w0 S0 E S μ st a w) {nm g : Nat} {cs : List PV} (hcs : st.H nm = some (.box cs)) (hg : μ nm = .pointer (some ⟨g, 0, none⟩)) : ∃ f : Nat → Value, ∀ (j : Nat) p, cs[j]? = some p → w.cell? ⟨g, j, none⟩ = some (f j) ∧ Rel S μ st.D w p (f j) := by
  obtain ⟨g', hg', hB, hlt, hcell, hfr, hS⟩ := h.heap nm _ hcs
  rw [hg] at hg'
  have hgg : g' = g := by injection hg' with h; injection h with h; injection h with h; exact h.symm
  subst hgg
  have hall : ∀ j : Nat, ∃ v, ∀ q, cs[j]? = some q → w.cell? ⟨g', j, none⟩ = some v ∧ Rel S μ st.D w q v := fun j => by
    cases hc : cs[j]? with
    | none => exact ⟨undef, fun q h => by cases h⟩
    | some q =>
      obtain ⟨v, h1, h2⟩ := hcell _ q hc
      exact ⟨v, fun q' h => by cases h; exact ⟨h1, h2⟩⟩
  obtain ⟨f, hf⟩ := Classical.axiomOfChoice hall
  exact ⟨f, fun j p hp => hf j p hp⟩
theorem unP_int (c : UInt8) : unP (.int .u8 (c.toNat : Int)) = c := by simp [unP]
theorem mv_convB {s d : TypeId} {x : Operand} (ho : o.op = .convert s d x) {nm off k n m : Nat} (hev : convB P s d nm off n (st.H nm) = some r) (hok : r.ok) (hx : Rel S μ st.D w (.bs nm off k n m) (a.eval x)) (h : Sim nt w0 S0 E S μ st a w) : Moves P nt w0 S0 E st a w o nb r := by
  unfold convB at hev
  split at hev
  · rename_i cs hcs
    split at hev
    · rename_i ag sz by_ z hd
      obtain ⟨i1, d1, z1, a1, b1, c1, e1⟩ := tyOf_inv hd
      have hd1 := shp_str (P := P) (d := d1) (by injection e1 with _ _ _ _ h5; exact h5.symm)
      subst hd1
      split at hev
      · rename_i ag2 sz2 by2 z2 e hs
        obtain ⟨i2, d2, z2', a2, b2, c2, e2⟩ := tyOf_inv hs
        have hd2 := shp_slice (P := P) (d := d2) (e := e) (by injection e2 with _ _ _ _ h5; exact h5.symm)
        subst hd2
        split at hev
        · rename_i ag3 sz3 by3 z3 hte
          obtain ⟨i3, d3, z3', a3, b3, c3, e3⟩ := tyOf_inv hte
          have hd3 : d3 = .int .u8 := shp_int (P := P) (by injection e3 with _ _ _ _ h5; exact h5.symm)
          subst hd3
          cases hev
          obtain ⟨hle, hby⟩ := hok
          obtain ⟨g, oo, c, hv, hD, hg, hoo, hnm, hmc, hcm⟩ := rel_bs hx
          obtain ⟨f, hf⟩ := box_cells h hcs hg
          have hl : (((cs.drop off).take n).map unP).length = n := by simp; omega
          have hcell : ∀ j (hj : j < (((cs.drop off).take n).map unP).length), w.cell? ((⟨g, oo, none⟩ : Addr).add j) = some (.int .u8 ((((cs.drop off).take n).map unP)[j].toNat : Int)) := fun j hj => by
            have hj' : j < n := by omega
            have : oo = off := hoo (by omega)
            subst this
            have hlt : oo + j < cs.length := by omega
            have hget : ((cs.drop oo).take n)[j]? = some cs[oo + j] := by
              rw [List.getElem?_take, if_pos hj', List.getElem?_drop, List.getElem?_eq_getElem hlt]
            obtain ⟨b, hb⟩ := hby _ (List.mem_of_getElem? hget)
            obtain ⟨h1, h2⟩ := hf (oo + j) _ (List.getElem?_eq_getElem hlt)
            rw [hb] at h2
            rw [Addr.add_lit, h1, rel_int h2]
            have : (((cs.drop oo).take n).map unP)[j]? = some b := by rw [List.getElem?_map, hget, hb]; simp [unP_int]
            rw [List.getElem?_eq_getElem hj] at this
            rw [Option.some.inj this]
          have hrun := run_convert_bytes_back w s d e ⟨g, oo, none⟩ c (((cs.drop off).take n).map unP) b2 b3 b1 hcell
          rw [hl] at hrun
          refine ⟨_, .string ⟨(((cs.drop off).take n).map unP).toArray⟩, w, S, μ, ?_, .inl rfl, h.more (D' := moreD st.D nb) (fun _ h => .inl h), .c (.str _)⟩
          unfold execOp
          simp only [ho, hv]
          simp [hrun]
        · cases hev
      · cases hev
    · cases hev
  · cases hev
theorem zeroCells_one {zero : Array Value} (hz : zero.size ≠ 0) (n : Nat) : (Builtin.zeroCells zero n).toList = (List.replicate n zero.toList).flatten := by
  unfold Builtin.zeroCells
  apply List.ext_getElem
  · simp
  · intro i h1 h2
    have hi : i < n * zero.size := by simpa using h1
    have hm : i % zero.size < zero.size := Nat.mod_lt _ (by omega)
    have key : ∀ (n i : Nat), i < n * zero.size → ((List.replicate n zero.toList).flatten)[i]? = some zero[i % zero.size]! := by
      intro n
      induction n with
      | zero => intro i hi; omega
      | succ n ih =>
        intro i hi
        rw [List.replicate_succ, List.flatten_cons, List.getElem?_append]
        split
        · rename_i hlt
          simp only [Array.length_toList] at hlt
          rw [Nat.mod_eq_of_lt hlt]
          simp [hlt]
        · rename_i hge
          simp only [Array.length_toList] at hge ⊢
          have hi' : i - zero.size < n * zero.size := by rw [Nat.add_mul] at hi; omega
          rw [ih _ hi']
          congr 2
          rw [← Nat.mod_eq_sub_mod (by omega)]
    have := key n i hi
    rw [List.getElem?_eq_getElem h2] at this
    rw [Option.some.inj this]
    simp
theorem mv_clear {c : Call} (ho : o.op = .call c) (hc : c.callee = .builtin .clear) {t : TypeId} (hts : c.argTypes.toList = [t]) {nm off k n m : Nat} (hvals : c.args.toList.map (ev st.T) = [.bs nm off k n m]) (hev : clearE P t nm off k n (st.H nm) = some r) (hok : r.ok) (h : Sim nt w0 S0 E S μ st a w) : Moves P nt w0 S0 E st a w o nb r := by
  obtain ⟨callee, args, ts⟩ := c
  obtain ⟨args⟩ := args
  obtain ⟨ts⟩ := ts
  simp only at hc hts hvals
  subst hc
  subst hts
  obtain ⟨x, rfl⟩ : ∃ x, args = [x] := by
    cases args with
    | nil => cases hvals
    | cons x args => cases args with
      | nil => exact ⟨x, rfl⟩
      | cons y args => simp at hvals
  simp only [List.map_cons, List.map_nil, List.cons.injEq, and_true] at hvals
  have hx := rel_ev h.tmps x
  rw [hvals] at hx
  unfold clearE at hev
  split at hev
  · rename_i cs hcs
    split at hev
    · rename_i ag sz by_ z e ht
      obtain ⟨i, d, z', h1, h2, h3, hty⟩ := tyOf_inv ht
      have hd := shp_slice (P := P) (d := d) (e := e) (by injection hty with _ _ _ _ h5; exact h5.symm)
      subst hd
      split at hev
      · rename_i te hte
        obtain ⟨i2, d2, z2, a2, b2, c2, e2⟩ := tyOf_inv hte
        split at hev
        · rename_i hz
          cases hev
          obtain ⟨hle, hk⟩ := hok
          obtain ⟨g, oo, c, hv, hD, hg, hoo, hnm, hmc, hcm⟩ := rel_bs hx
          have hsz : te.size = i2.size := by rw [e2]
          have hzz : te.zero = ofVal z2 := by rw [e2]
          have hlz : (ofVal z2).cells.length = z2.cells.size := by
            unfold ofVal
            split
            · simp [PV.cells, Value.cells]
            · rename_i hna
              have h5 : (ofValC z2).cells = [ofValC z2] := by unfold ofValC; split <;> rfl
              rw [h5]
              cases z2 <;> first | rfl | exact absurd rfl (hna _)
          have fin : ∀ w', (Builtin.clear_ #[t] o.type #[a.eval x]).run P w = .ok (.tuple #[]) w' → Sim nt w0 S0 E S μ { T := st.T, H := upd st.H nm (some (.box (setL cs off (List.replicate n te.zero.cells).flatten))), D := st.D } a w' → Moves P nt w0 S0 E st a w o nb ⟨off + n * k ≤ cs.length ∧ k = te.size, .tup [], [nm], [(nm, some (.box (setL cs off (List.replicate n te.zero.cells).flatten)))]⟩ := fun w' hrun hs => by
            refine ⟨_, .tuple #[], w', S, μ, ?_, .inl rfl, hs.more (D' := moreD st.D nb) (fun _ h => .inl h), .c (.tup [] #[] rfl (fun i p hp => by simp at hp))⟩
            unfold execOp
            simp only [ho]
            simp [resolve, invoke, builtin, hrun]
          by_cases hn0 : n = 0
          · subst hn0
            refine fin w ?_ ?_
            · rw [hv]
              simp [Builtin.clear_, run_underlying h2]
            · have e : setL cs off (List.replicate 0 te.zero.cells).flatten = cs := by simp [setL]
              rw [e]
              have eH : upd st.H nm (some (.box cs)) = st.H := funext fun y => by
                unfold upd
                split
                · rename_i e; rw [e, hcs]
                · rfl
              rw [eH]
              exact h
          · have : oo = off := hoo (by omega)
            subst this
            have hz0 : z2.cells.size ≠ 0 ∨ i2.size = 0 := by
              rcases Nat.eq_zero_or_pos i2.size with h0 | h0
              · exact .inr h0
              · left; rw [hzz, hlz, hsz] at hz; omega
            have hzl : z2.cells.size = i2.size := by rw [hzz, hlz, hsz] at hz; exact hz.1
            have hcl : (Builtin.zeroCells z2.cells n).toList = (List.replicate n z2.cells.toList).flatten := by
              rcases hz0 with h0 | h0
              · exact zeroCells_one h0 n
              · have : z2.cells = #[] := Array.eq_empty_of_size_eq_zero (by omega)
                rw [this]
                simp [Builtin.zeroCells]
            have hone1 : ∀ (i : Nat) p, (ofVal z2).cells[i]? = some p → ∃ u, z2.cells[i]? = some u ∧ u.oneCell' = true := fun i p hp => by
              obtain ⟨u, hu, hr⟩ := ofVal_cells (S := S) (μ := μ) (st := st) (w := w) z2 i p hp
              exact ⟨u, hu, one_one hr (by
                have := List.all_eq_true.1 hz.2 p (by rw [hzz]; exact List.mem_of_getElem? hp)
                exact this)⟩
            have hlenf : (List.replicate n z2.cells.toList).flatten.length = (List.replicate n te.zero.cells).flatten.length := by simp [hzz, hlz]
            obtain ⟨hrun, hs⟩ := sim_write (P := P) h hcs hg ((List.replicate n z2.cells.toList).flatten) ((List.replicate n te.zero.cells).flatten) oo hlenf (by simp [hz.1, ← hk]; omega)
              (fun v hv => by
                obtain ⟨l, hl, hvl⟩ := List.mem_flatten.1 hv
                obtain ⟨_, rfl⟩ := List.mem_replicate.1 hl
                obtain ⟨j, hj⟩ := List.getElem?_of_mem hvl
                rw [Array.getElem?_toList] at hj
                have hjl := (Array.getElem?_eq_some_iff.1 hj).1
                obtain ⟨u, hu, h1⟩ := hone1 j _ (List.getElem?_eq_getElem (by rw [hlz]; exact hjl))
                rw [hj] at hu
                cases hu
                exact h1)
              (fun j p hp => by
                have key : ∀ (n j : Nat) p, ((List.replicate n te.zero.cells).flatten)[j]? = some p → ∃ u, ((List.replicate n z2.cells.toList).flatten)[j]? = some u ∧ Rel S μ st.D w p u := by
                  intro n
                  induction n with
                  | zero => intro j p hp; simp at hp
                  | succ n ih =>
                    intro j p hp
                    rw [List.replicate_succ, List.flatten_cons, List.getElem?_append] at hp ⊢
                    have hl2 : z2.cells.toList.length = te.zero.cells.length := by rw [hzz, hlz]; simp
                    rw [hl2]
                    split at hp
                    · rename_i hlt
                      rw [if_pos hlt]
                      rw [hzz] at hp
                      obtain ⟨u, hu, hr⟩ := ofVal_cells (S := S) (μ := μ) (st := st) (w := w) z2 j p hp
                      exact ⟨u, by rw [Array.getElem?_toList]; exact hu, hr⟩
                    · rename_i hlt
                      rw [if_neg hlt]
                      exact ih _ p hp
                obtain ⟨u, hu, hr⟩ := key n j p hp
                rw [List.getD_eq_getElem?_getD, hu]
                exact hr)
            refine fin _ ?_ hs
            rw [hv]
            have hn1 : n ≠ 0 := hn0
            cases n with
            | zero => exact absurd rfl hn0
            | succ n => simp [Builtin.clear_, run_underlying h2, zeroValue, typeInfo, a2, c2, hcl, hrun]
        · cases hev
      · cases hev
    · cases hev
  · cases hev
theorem mv_appB {c : Call} (ho : o.op = .call c) (hc : c.callee = .builtin .append) {s : TypeId} (hts : c.argTypes.toList = [s, s]) {nm off k n m nm2 off2 k2 n2 m2 : Nat} (hvals : c.args.toList.map (ev st.T) = [.bs nm off k n m, .bs nm2 off2 k2 n2 m2]) {e : TypeId} {te : Ty} {ag : Bool} {sz by_ : Nat} {z : PV}
    (ht : tyOf P s = some ⟨ag, sz, by_, z, .slice e⟩) (hte : tyOf P e = some te) (hev : appB te nm off k n m nm2 off2 k2 n2 (st.H nm) = some r) (hok : r.ok) (h : Sim nt w0 S0 E S μ st a w) : Moves P nt w0 S0 E st a w o nb r := by
  obtain ⟨callee, args, ts⟩ := c
  obtain ⟨args⟩ := args
  obtain ⟨ts⟩ := ts
  simp only at hc hts hvals
  subst hc
  subst hts
  obtain ⟨x, y, rfl⟩ : ∃ x y, args = [x, y] := by
    cases args with
    | nil => cases hvals
    | cons x args => cases args with
      | nil => simp at hvals
      | cons y args => cases args with
        | nil => exact ⟨x, y, rfl⟩
        | cons z args => simp at hvals
  simp only [List.map_cons, List.map_nil, List.cons.injEq, and_true] at hvals
  have hx := rel_ev h.tmps x
  have hy := rel_ev h.tmps y
  rw [hvals.1] at hx
  rw [hvals.2] at hy
  unfold appB at hev
  split at hev
  · rename_i cs hcs
    cases hev
    obtain ⟨⟨⟨hnm2, hk, hk2⟩, hroom, hle1, hle2⟩, hone⟩ := hok
    subst hnm2
    obtain ⟨i, d, z', h1, h2, h3, hty⟩ := tyOf_inv ht
    have hd := shp_slice (P := P) (d := d) (e := e) (by injection hty with _ _ _ _ h5; exact h5.symm)
    subst hd
    obtain ⟨i2, d2, z2, a2, b2, c2, e2⟩ := tyOf_inv hte
    have hsz : te.size = i2.size := by rw [e2]
    obtain ⟨g, oo, c, hv, hD, hg, hoo, hnm, hmc, hcm⟩ := rel_bs hx
    obtain ⟨g2, oo2, c2', hv2, hD2, hg2, hoo2, hnm2, hmc2, hcm2⟩ := rel_bs hy
    rw [hg] at hg2
    have hgg : g2 = g := by injection hg2 with h; injection h with h; injection h with h; exact h.symm
    subst hgg
    obtain ⟨f, hf⟩ := box_cells h hcs hg
    have hkk : k2 = k := by omega
    subst hkk
    have hneed : n + n2 ≤ c := by omega
    have hidx : ∀ (j : Nat) p, ((cs.drop off2).take (n2 * k2))[j]? = some p → j < n2 * k2 ∧ cs[off2 + j]? = some p := fun j p hp => by
      rw [List.getElem?_take] at hp
      split at hp
      · rename_i hlt; rw [List.getElem?_drop] at hp; exact ⟨hlt, hp⟩
      · cases hp
    have hlen : ((cs.drop off2).take (n2 * k2)).length = n2 * k2 := by simp; omega
    have hload : (Builtin.firstCells i2.size n2 (.slice (some ⟨g2, oo2, none⟩) n2 c2')).run P w = .ok (((List.range (n2 * i2.size)).map fun j => f (off2 + j)).toArray) w := by
      simp only [Builtin.firstCells]
      rcases Nat.eq_zero_or_pos n2 with h0 | h0
      · subst h0
        have := run_loadCells (P := P) w ⟨g2, oo2, none⟩ (0 * i2.size) (fun j => f (off2 + j)) (fun j hj => by omega)
        simpa using this
      · have ho2 : oo2 = off2 := hoo2 (by omega)
        subst ho2
        refine run_loadCells (P := P) w ⟨g2, oo2, none⟩ (n2 * i2.size) (fun j => f (oo2 + j)) (fun j hj => ?_)
        have hlt : oo2 + j < cs.length := by rw [← hsz, ← hk2] at hj; omega
        rw [Addr.add_lit]
        exact (hf (oo2 + j) _ (List.getElem?_eq_getElem hlt)).1
    have hst : ∃ w', (storeCells ((⟨g2, oo, none⟩ : Addr).add (n * i2.size)) ((List.range (n2 * i2.size)).map fun j => f (off2 + j))).run P w = .ok () w' ∧ Sim nt w0 S0 E S μ { T := st.T, H := upd st.H nm2 (some (.box (setL cs (off + n * k2) ((cs.drop off2).take (n2 * k2))))), D := st.D } a w' := by
      rcases Nat.eq_zero_or_pos n2 with h0 | h0
      · subst h0
        refine ⟨w, by simp [storeCells], ?_⟩
        have e : setL cs (off + n * k2) ((cs.drop off2).take (0 * k2)) = cs := by simp [setL]
        rw [e]
        have eH : upd st.H nm2 (some (.box cs)) = st.H := funext fun y => by
          unfold upd
          split
          · rename_i e; rw [e, hcs]
          · rfl
        rw [eH]
        exact h
      · have ho1 : oo = off := hoo (by omega)
        subst ho1
        have he : n * i2.size = n * k2 := by rw [hk2, hsz]
        have he2 : n2 * i2.size = n2 * k2 := by rw [hk2, hsz]
        rw [Addr.add_lit, he, he2]
        have hle3 : oo + n * k2 + n2 * k2 ≤ cs.length := by rw [Nat.add_mul] at hle1; omega
        exact ⟨_, sim_write (P := P) h hcs hg ((List.range (n2 * k2)).map fun j => f (off2 + j)) ((cs.drop off2).take (n2 * k2)) (oo + n * k2) (by simp [hlen]) (by rw [hlen]; exact hle3)
          (fun v hv => by
            obtain ⟨j, hj, rfl⟩ := List.mem_map.1 hv
            have hj := List.mem_range.1 hj
            have hlt : off2 + j < cs.length := by omega
            refine one_one (hf (off2 + j) _ (List.getElem?_eq_getElem hlt)).2 (hone _ (List.mem_of_getElem? (i := j) ?_))
            rw [List.getElem?_take, if_pos hj, List.getElem?_drop, List.getElem?_eq_getElem hlt])
          (fun j p hp => by
            obtain ⟨hj, hp'⟩ := hidx j p hp
            have : (((List.range (n2 * k2)).map fun j => f (off2 + j)).getD j undef) = f (off2 + j) := by simp [List.getD, hj]
            rw [this]
            exact (hf (off2 + j) p hp').2)⟩
    obtain ⟨w', hst, hs⟩ := hst
    refine ⟨_, .slice (some ⟨g2, oo, none⟩) (n + n2) c, w', S, μ, ?_, .inl rfl, hs.more (D' := moreD st.D nb) (fun _ h => .inl h), .bs nm2 off k2 (n + n2) m g2 oo c (.inl hD) hg hoo hroom hmc hcm⟩
    unfold execOp
    simp only [ho]
    have hun : ((P.underlying s).any fun d => d matches .int _) = false := by rw [h2]; rfl
    simp [resolve, invoke, builtin, Builtin.append_, hv, hv2, run_underlying h2, sizeOf_run a2, Builtin.lenOf, hneed, hload, hst]
  · cases hev
/-! Maps. -/
theorem keyE_str {kt : TypeId} {s : List UInt8} {q : PV} {b : Bool} (h : keyE P kt (.str s) q = some b) : ∃ t, q = .str t ∧ b = (s == t) ∧ P.underlying kt = some .string := by
  cases q with
  | str t =>
    simp only [keyE] at h
    split at h
    · rename_i ag sz by_ z hty
      obtain ⟨i, d, z', h1, h2, h3, e⟩ := tyOf_inv hty
      have hd := shp_str (P := P) (d := d) (by injection e with _ _ _ _ h5; exact h5.symm)
      subst hd
      cases h
      exact ⟨t, rfl, rfl, h2⟩
    · cases h
  | _ => simp [keyE] at h
theorem keyE_int {kt : TypeId} {k : IntKind} {s : Int} {q : PV} {b : Bool} (h : keyE P kt (.int k s) q = some b) : ∃ t, q = .int k t ∧ b = (s == t) ∧ P.underlying kt = some (.int k) := by
  cases q with
  | int k2 t =>
    simp only [keyE] at h
    split at h
    · rename_i ag sz by_ z j hty
      obtain ⟨i, d, z', h1, h2, h3, e⟩ := tyOf_inv hty
      have hd := shp_int (P := P) (d := d) (k := j) (by injection e with _ _ _ _ h5; exact h5.symm)
      subst hd
      split at h
      · rename_i hj
        obtain ⟨rfl, rfl⟩ := hj
        cases h
        exact ⟨t, rfl, rfl, h2⟩
      · cases h
    · cases h
  | _ => simp [keyE] at h
theorem keyE_agg {kt : TypeId} {xs : List PV} {q : PV} {b : Bool} (h : keyE P kt (.agg xs) q = some b) {u v : Value} (ru : Rel S μ st.D w (.agg xs) u) (rv : Rel S μ st.D w q v) : (∃ fs, P.underlying kt = some fs ∧ isAggD fs = true) ∧ (∃ c d, u = Value.agg c ∧ v = Value.agg d) ∧ ∀ w, (Op.equal kt u v).run P w = .ok b w := by
  cases q with
  | agg ys =>
    simp only [keyE] at h
    split at h
    · rename_i ks hks
      unfold eqKinds at hks
      cases hu : P.underlying kt with
      | none => rw [hu] at hks; cases hks
      | some dd =>
        rw [hu] at hks
        simp only at hks
        split at hks
        · rename_i hag
          split at h
          · rename_i hkk
            obtain ⟨ax, ex, sx, rx⟩ := rel_agg ru
            obtain ⟨ay, ey, sy, ry⟩ := rel_agg rv
            have conv : ∀ (arr : Array Value) (i : Nat), arr.toList.getD i undef = arr.getD i undef := fun arr i => by simp [List.getD, Array.getD_eq_getD_getElem?]
            obtain ⟨k1, k2, k3⟩ := eqCs_rel (ks := ks) (us := ax.toList) (vs := ay.toList) h hkk.1 hkk.2 (by simpa using sx) (by simpa using sy) (fun i p hi => by rw [conv]; exact rx i p hi) (fun i p hi => by rw [conv]; exact ry i p hi)
            refine ⟨⟨dd, rfl, hag.1⟩, ⟨ax, ay, ex, ey⟩, fun w => ?_⟩
            have := eqOK (P := P) 9992 8 kt ks hks (.agg ax) (.agg ay) w (.inr ⟨ax, ay, rfl, rfl, k1, k2, fun d' h => by rw [hu] at h; cases h; exact hag.1⟩)
            simp only [Value.cells, k3] at this
            rw [ex, ey]
            exact this
          · cases h
        · cases hks
    · cases h
  | _ => simp [keyE] at h
theorem keyOK_und {kt : TypeId} {k : PV} (h : keyOK P kt k = true) : ∃ d, P.underlying kt = some d := by
  unfold keyOK at h
  split at h
  · split at h
    · rename_i hty; obtain ⟨i, d, z', h1, h2, _⟩ := tyOf_inv hty; exact ⟨d, h2⟩
    · cases h
  · split at h
    · rename_i hty; obtain ⟨i, d, z', h1, h2, _⟩ := tyOf_inv hty; exact ⟨d, h2⟩
    · cases h
  · split at h
    · rename_i hty; obtain ⟨i, d, z', h1, h2, _⟩ := tyOf_inv hty; exact ⟨d, h2⟩
    · cases h
  · cases h
theorem check_run {kt : TypeId} {k : PV} {v : Value} (h : keyOK P kt k = true) (hr : Rel S μ st.D w k v) (em : Bool) (n : Nat) : (Instr.checkKey em (n + 2) kt v).run P w = .ok () w := by
  unfold keyOK at h
  split at h
  · rename_i s
    have e := rel_str hr
    split at h
    · rename_i ag sz by_ z hty
      obtain ⟨i, d, z', h1, h2, h3, e5⟩ := tyOf_inv hty
      have hd := shp_str (P := P) (d := d) (by injection e5 with _ _ _ _ h5; exact h5.symm)
      subst hd
      rw [e, Instr.checkKey]
      simp [run_underlying h2]
    · cases h
  · rename_i kk s
    have e := rel_int hr
    split at h
    · rename_i ag sz by_ z j hty
      obtain ⟨i, d, z', h1, h2, h3, e5⟩ := tyOf_inv hty
      have hd := shp_int (P := P) (d := d) (k := j) (by injection e5 with _ _ _ _ h5; exact h5.symm)
      subst hd
      rw [e, Instr.checkKey]
      simp [run_underlying h2]
    · cases h
  · rename_i xs
    obtain ⟨arr, e, hs, hx⟩ := rel_agg hr
    split at h
    · rename_i ag sz by_ z fs hty
      obtain ⟨i, d, z', h1, h2, h3, e5⟩ := tyOf_inv hty
      obtain ⟨fields, rfl, hfs⟩ := shp_strct (P := P) (d := d) (fs := fs) (by injection e5 with _ _ _ _ h5; exact h5.symm)
      rw [e, Instr.checkKey]
      simp only [Sem.run_bind, run_underlying h2, Result.andThen_ok]
      rw [← Array.forIn_toList]
      subst hfs
      rw [List.all_map] at h
      clear e5 h1 h2 hty
      generalize fields.toList = L at h
      induction L with
      | nil => simp
      | cons f L ih =>
        rw [List.all_cons, Bool.and_eq_true] at h
        obtain ⟨hf, hL⟩ := h
        simp only [Function.comp] at hf
        split at hf
        · rename_i ag2 sz2 by2 z2 j htf
          obtain ⟨i2, d2, z2', a2, b2, c2, e2⟩ := tyOf_inv htf
          have hd2 := shp_int (P := P) (d := d2) (k := j) (by injection e2 with _ _ _ _ h5; exact h5.symm)
          subst hd2
          have hlt : f.offset < xs.length := of_decide_eq_true hf
          have hlt' : f.offset < arr.size := by omega
          have hp : (part f.type arr f.offset).run P w = .ok (arr.getD f.offset undef) w := by
            unfold part
            simp [isAgg_run b2, isAggD, hlt']
          have hck : ∀ v, (Instr.checkKey em (n + 1) f.type v).run P w = .ok () w := fun v => by
            rw [Instr.checkKey]
            simp [run_underlying b2]
          simp only [List.forIn_cons, Sem.run_bind]
          by_cases hn : f.name = "_"
          · simp only [hn, ne_eq, not_true_eq_false, if_false, Sem.run_pure, Result.andThen_ok]
            exact ih hL
          · simp only [ne_eq, hn, not_false_eq_true, if_true, Sem.run_bind, hp, Result.andThen_ok, hck, Sem.run_pure]
            exact ih hL
        · cases hf
    · cases h
  · cases h
/-- A key is looked for. -/
theorem find_run {kt : TypeId} {k : PV} {vk : Value} (hko : keyOK P kt k = true) (hk : Rel S μ st.D w k vk) (es : List (PV × PV)) (L : List MapEntry) (hl : L.length = es.length) (hes : ∀ (i : Nat) e, es[i]? = some e → ∃ x, L[i]? = some x ∧ Rel S μ st.D w e.1 x.key ∧ Rel S μ st.D w e.2 x.val)
    (hall : ∀ e ∈ es, (keyE P kt k e.1).isSome = true) : ∃ rr, (Instr.findKey kt vk L).run P w = .ok rr w ∧ (match lookL P kt k es with | none => rr = none | some p => ∃ i v, rr = some (i, v) ∧ Rel S μ st.D w p v) := by
  obtain ⟨d, hd⟩ := keyOK_und hko
  have now : ∀ (es : List (PV × PV)) (L : List MapEntry) (i0 : Nat), L.length = es.length → (∀ (i : Nat) e, es[i]? = some e → ∃ x, L[i]? = some x ∧ Rel S μ st.D w e.1 x.key ∧ Rel S μ st.D w e.2 x.val) → (∀ e ∈ es, ∃ b, keyE P kt k e.1 = some b ∧ ∀ v, Rel S μ st.D w e.1 v → Instr.sameNow d vk v = some b) →
      ∃ rr, Instr.findNow d vk L i0 = some rr ∧ (match lookL P kt k es with | none => rr = none | some p => ∃ i v, rr = some (i, v) ∧ Rel S μ st.D w p v) := by
    intro es
    induction es with
    | nil =>
      intro L i0 hl _ _
      have : L = [] := List.eq_nil_of_length_eq_zero hl
      subst this
      exact ⟨none, rfl, rfl⟩
    | cons e es ih =>
      intro L i0 hl hes hall
      cases L with
      | nil => simp at hl
      | cons x L =>
        obtain ⟨y, hy, r1, r2⟩ := hes 0 e rfl
        simp only [List.getElem?_cons_zero, Option.some.injEq] at hy
        subst hy
        obtain ⟨b, hb, hs⟩ := hall e (by simp)
        have hs := hs _ r1
        cases b with
        | true => exact ⟨some (i0, x.val), by simp [Instr.findNow, hs], by simp only [lookL, hb]; exact ⟨i0, x.val, rfl, r2⟩⟩
        | false =>
          obtain ⟨rr, h1, h2⟩ := ih L (i0 + 1) (by simpa using hl) (fun i e' hi => by simpa using hes (i + 1) e' (by simpa using hi)) (fun e' he' => hall e' (by simp [he']))
          exact ⟨rr, by simp [Instr.findNow, hs, h1], by simp only [lookL, hb]; exact h2⟩
  have viaNow : (∀ e ∈ es, ∃ b, keyE P kt k e.1 = some b ∧ ∀ v, Rel S μ st.D w e.1 v → Instr.sameNow d vk v = some b) → ∃ rr, (Instr.findKey kt vk L).run P w = .ok rr w ∧ (match lookL P kt k es with | none => rr = none | some p => ∃ i v, rr = some (i, v) ∧ Rel S μ st.D w p v) := fun hn => by
    obtain ⟨rr, h1, h2⟩ := now es L 0 hl hes hn
    exact ⟨rr, by simp [Instr.findKey, run_underlying hd, h1], h2⟩
  cases k with
  | str s =>
    refine viaNow fun e he => ?_
    obtain ⟨b, hb⟩ := Option.isSome_iff_exists.1 (hall e he)
    obtain ⟨t, ht, hbt, hu⟩ := keyE_str hb
    refine ⟨b, hb, fun v hv => ?_⟩
    rw [ht] at hv
    rw [rel_str hv, rel_str hk]
    rw [hd] at hu
    cases hu
    rw [hbt]
    show some _ = some _
    congr 1
    show ((ByteArray.mk s.toArray).data == (ByteArray.mk t.toArray).data) = _
    simp
  | int kk s =>
    refine viaNow fun e he => ?_
    obtain ⟨b, hb⟩ := Option.isSome_iff_exists.1 (hall e he)
    obtain ⟨t, ht, hbt, hu⟩ := keyE_int hb
    refine ⟨b, hb, fun v hv => ?_⟩
    rw [ht] at hv
    rw [rel_int hv, rel_int hk]
    rw [hd] at hu
    cases hu
    rw [hbt]
    simp [Instr.sameNow]
  | agg xs =>
    cases es with
    | nil =>
      have : L = [] := List.eq_nil_of_length_eq_zero hl
      subst this
      exact ⟨none, by simp [Instr.findKey, run_underlying hd, Instr.findNow], rfl⟩
    | cons e0 es0 =>
      have ask : ∀ (es : List (PV × PV)) (L : List MapEntry) (i0 : Nat), L.length = es.length → (∀ (i : Nat) e, es[i]? = some e → ∃ x, L[i]? = some x ∧ Rel S μ st.D w e.1 x.key ∧ Rel S μ st.D w e.2 x.val) → (∀ e ∈ es, (keyE P kt (.agg xs) e.1).isSome = true) →
          ∃ rr, (Instr.findAsking kt vk L i0).run P w = .ok rr w ∧ (match lookL P kt (.agg xs) es with | none => rr = none | some p => ∃ i v, rr = some (i, v) ∧ Rel S μ st.D w p v) := by
        intro es
        induction es with
        | nil =>
          intro L i0 hl _ _
          have : L = [] := List.eq_nil_of_length_eq_zero hl
          subst this
          exact ⟨none, by simp [Instr.findAsking], rfl⟩
        | cons e es ih =>
          intro L i0 hl hes hall
          cases L with
          | nil => simp at hl
          | cons x L =>
            obtain ⟨y, hy, r1, r2⟩ := hes 0 e rfl
            simp only [List.getElem?_cons_zero, Option.some.injEq] at hy
            subst hy
            obtain ⟨b, hb⟩ := Option.isSome_iff_exists.1 (hall e (by simp))
            obtain ⟨_, _, hrun⟩ := keyE_agg hb hk r1
            cases b with
            | true => exact ⟨some (i0, x.val), by simp [Instr.findAsking, hrun], by simp only [lookL, hb]; exact ⟨i0, x.val, rfl, r2⟩⟩
            | false =>
              obtain ⟨rr, h1, h2⟩ := ih L (i0 + 1) (by simpa using hl) (fun i e' hi => by simpa using hes (i + 1) e' (by simpa using hi)) (fun e' he' => hall e' (by simp [he']))
              exact ⟨rr, by simp [Instr.findAsking, hrun, h1], by simp only [lookL, hb]; exact h2⟩
      obtain ⟨rr, h1, h2⟩ := ask (e0 :: es0) L 0 hl hes hall
      refine ⟨rr, ?_, h2⟩
      cases L with
      | nil => simp at hl
      | cons x L =>
        obtain ⟨y, hy, r1, r2⟩ := hes 0 e0 rfl
        simp only [List.getElem?_cons_zero, Option.some.injEq] at hy
        subst hy
        obtain ⟨b, hb⟩ := Option.isSome_iff_exists.1 (hall e0 (by simp))
        obtain ⟨⟨fs, hfs, hag⟩, ⟨c1, c2, e1, e2⟩, _⟩ := keyE_agg hb hk r1
        have hno : Instr.findNow d vk (x :: L) 0 = none := by
          rw [Instr.findNow, e1, e2]
          rw [hd] at hfs
          cases hfs
          cases d <;> first | rfl | cases hag
        simp [Instr.findKey, run_underlying hd, hno, h1]
  | _ => simp [keyOK] at hko
theorem mv_makeMap {t : TypeId} (ho : o.op = .makeMap t none) (h : Sim nt w0 S0 E S μ st a w) (hnb : ∀ j, j < 8 → ¬ st.D (nb + j)) (hr : r = ⟨True, .mp nb, [], [(nb, some (.map []))]⟩) : Moves P nt w0 S0 E st a w o nb r := by
  subst hr
  have hnm := nb_fresh hnb
  have hB : w0.heap.size ≤ w.heap.size := h.below.size
  have hb := (Below.refl w.heap.size w).alloc (Nat.le_refl _) (.map #[] 0)
  have hw : ∀ a, S a → (w.alloc (.map #[] 0)).cell? a = w.cell? a := fun a ha => hb.cell (h.slt a ha).1
  have hμ : ∀ m, st.D m → upd μ nb (.map (some w.heap.size)) m = μ m := fun m hm => upd_ne _ _ (fun e => hnm (e ▸ hm))
  have hD : ∀ m, st.D m → moreD st.D nb m := fun m hm => .inl hm
  refine ⟨_, .map (some w.heap.size), w.alloc (.map #[] 0), S, upd μ nb (.map (some w.heap.size)), ?_, .inl rfl, ?_, .mp nb w.heap.size (.inr ⟨Nat.le_refl _, by omega⟩) (upd_same _ _ _)⟩
  · unfold execOp
    simp only [ho]
    simp [Instr.makeMap]
  · show Sim nt w0 S0 E S _ { T := st.T, H := upd st.H nb (some (.map [])), D := moreD st.D nb } a _
    refine h.on (fun _ h => h) hw hD hμ ?_ ?_ ?_ (hb.mono hB) (fun _ _ h => h) (fun a ha => ⟨Nat.lt_of_lt_of_le (h.slt a ha).1 hb.size, (h.slt a ha).2⟩)
    · intro m o' hm
      by_cases hmn : m = nb
      · subst hmn
        rw [upd_same] at hm
        cases hm
        refine ⟨[], ⟨.nil, List.nodup_nil⟩, w.heap.size, #[], 0, upd_same _ _ _, hB, by simp, ?_, rfl, fun i e hi => by simp at hi, fun a ha hS => ?_, List.nodup_nil, fun e he => by simp at he⟩
        · show (w.heap.push (.map #[] 0))[w.heap.size]? = _
          simp
        · have := (h.slt a hS).1; omega
      · rw [upd_ne _ _ hmn] at hm
        exact (h.heap m o' hm).keep (fun _ h => h) hw hD hμ (h.lt hm) hb.size (fun g hg => ⟨hb.block g (hrel_blk (h.heap m o' hm) g hg).2, fun _ _ h => h⟩)
    · intro m m' o1 o2 hm hm' hne g hg hg'
      by_cases h1 : m = nb
      · subst h1
        rw [upd_same] at hg
        have h2 : m' ≠ m := fun e => hne e.symm
        rw [upd_ne _ _ h2] at hg' hm'
        cases hg
        exact absurd (hrel_blk (h.heap m' o2 hm') _ hg').2 (Nat.lt_irrefl _)
      · rw [upd_ne _ _ h1] at hg hm
        by_cases h2 : m' = nb
        · subst h2
          rw [upd_same] at hg'
          cases hg'
          exact absurd (hrel_blk (h.heap m o1 hm) _ hg).2 (Nat.lt_irrefl _)
        · rw [upd_ne _ _ h2] at hg' hm'
          exact h.apart m m' o1 o2 hm hm' hne g hg hg'
    · intro m hm
      have : m ≠ nb := fun e => hm (.inr ⟨by omega, by omega⟩)
      rw [upd_ne _ _ this]
      exact h.fresh m (fun e => hm (.inl e))
theorem mv_range {t : TypeId} {x : Operand} (ho : o.op = .range t x) {l : List UInt8} (hev : rangeE P t nb l = some r) (hx : Rel S μ st.D w (.str l) (a.eval x)) (h : Sim nt w0 S0 E S μ st a w) (hnb : ∀ j, j < 8 → ¬ st.D (nb + j)) : Moves P nt w0 S0 E st a w o nb r := by
  unfold rangeE at hev
  split at hev
  · rename_i ag sz by_ z ht
    obtain ⟨i, d, z', h1, h2, h3, hty⟩ := tyOf_inv ht
    have hd : d = .string := by
      have h5 : shpOf P d = .str := by injection hty with _ _ _ _ h5; exact h5.symm
      cases d <;> simp only [shpOf] at h5 <;> first | rfl | cases h5 | (split at h5 <;> cases h5)
    subst hd
    cases hev
    have hv := rel_str hx
    have hnm := nb_fresh hnb
    have hB : w0.heap.size ≤ w.heap.size := h.below.size
    have hb := (Below.refl w.heap.size w).alloc (Nat.le_refl _) (.stringIter ⟨l.toArray⟩ 0)
    have hw : ∀ a, S a → (w.alloc (.stringIter ⟨l.toArray⟩ 0)).cell? a = w.cell? a := fun a ha => hb.cell (h.slt a ha).1
    have hμ : ∀ m, st.D m → upd μ nb (.pointer (some ⟨w.heap.size, 0, none⟩)) m = μ m := fun m hm => upd_ne _ _ (fun e => hnm (e ▸ hm))
    have hD : ∀ m, st.D m → moreD st.D nb m := fun m hm => .inl hm
    refine ⟨_, .pointer (some ⟨w.heap.size, 0, none⟩), w.alloc (.stringIter ⟨l.toArray⟩ 0), S, upd μ nb (.pointer (some ⟨w.heap.size, 0, none⟩)), ?_, .inl rfl, ?_, .ptr nb 0 w.heap.size (.inr ⟨Nat.le_refl _, by omega⟩) (upd_same _ _ _)⟩
    · unfold execOp
      simp only [ho, hv]
      simp [Instr.range, run_underlying h2]
    · show Sim nt w0 S0 E S _ { T := st.T, H := upd st.H nb (some (.siter l 0)), D := moreD st.D nb } a _
      refine h.on (fun _ h => h) hw hD hμ ?_ ?_ ?_ (hb.mono hB) (fun _ _ h => h) (fun a ha => ⟨Nat.lt_of_lt_of_le (h.slt a ha).1 hb.size, (h.slt a ha).2⟩)
      · intro m o' hm
        by_cases hmn : m = nb
        · subst hmn
          rw [upd_same] at hm
          cases hm
          refine ⟨w.heap.size, upd_same _ _ _, hB, by simp, ?_, fun a ha hS => ?_⟩
          · show (w.heap.push (.stringIter ⟨l.toArray⟩ 0))[w.heap.size]? = _
            simp
          · have := (h.slt a hS).1; omega
        · rw [upd_ne _ _ hmn] at hm
          exact (h.heap m o' hm).keep (fun _ h => h) hw hD hμ (h.lt hm) hb.size (fun g hg => ⟨hb.block g (hrel_blk (h.heap m o' hm) g hg).2, fun _ _ h => h⟩)
      · intro m m' o1 o2 hm hm' hne g hg hg'
        by_cases h1 : m = nb
        · subst h1
          rw [upd_same] at hg
          have h2 : m' ≠ m := fun e => hne e.symm
          rw [upd_ne _ _ h2] at hg' hm'
          cases hg
          exact absurd (hrel_blk (h.heap m' o2 hm') _ hg').2 (Nat.lt_irrefl _)
        · rw [upd_ne _ _ h1] at hg hm
          by_cases h2 : m' = nb
          · subst h2
            rw [upd_same] at hg'
            cases hg'
            exact absurd (hrel_blk (h.heap m o1 hm) _ hg).2 (Nat.lt_irrefl _)
          · rw [upd_ne _ _ h2] at hg' hm'
            exact h.apart m m' o1 o2 hm hm' hne g hg hg'
      · intro m hm
        have : m ≠ nb := fun e => hm (.inr ⟨by omega, by omega⟩)
        rw [upd_ne _ _ this]
        exact h.fresh m (fun e => hm (.inl e))
  · cases hev
theorem mv_next {x : Operand} (ho : o.op = .next x true) {nm : Nat} (hev : nextE nm (st.H nm) = some r) (hx : Rel S μ st.D w (.ptr nm 0) (a.eval x)) (h : Sim nt w0 S0 E S μ st a w) : Moves P nt w0 S0 E st a w o nb r := by
  unfold nextE at hev
  split at hev
  · rename_i s pos hes
    obtain ⟨g, hv, hDm, hg⟩ := rel_ptr hx
    obtain ⟨g', hg', hB, hlt, hhp, hS⟩ := h.heap nm _ hes
    rw [hg] at hg'
    have hgg : g' = g := by injection hg' with h; injection h with h; injection h with h; exact h.symm
    subst hgg
    have hget : (getObj g').run P w = .ok (.stringIter ⟨s.toArray⟩ pos) w := by simp [getObj, Sem.run, hhp]
    have hsz0 : (⟨s.toArray⟩ : ByteArray).size = s.length := by simp [ByteArray.size]
    split at hev
    · rename_i hlt0
      cases hev
      obtain ⟨q, hq⟩ : ∃ q, q = Utf8.decode ⟨s.toArray⟩ pos := ⟨_, rfl⟩
      rw [← hq]
      obtain ⟨w', hw'⟩ : ∃ w' : World, w' = { w with heap := w.heap.setIfInBounds g' (.stringIter ⟨s.toArray⟩ (pos + q.2)) } := ⟨_, rfl⟩
      have hset : (setObj g' (.stringIter ⟨s.toArray⟩ (pos + q.2))).run P w = .ok () w' := by rw [hw']; simp [setObj, Sem.run, hhp]
      have hhg : w'.heap[g']? = some (.stringIter ⟨s.toArray⟩ (pos + q.2)) := by rw [hw']; simp [hlt]
      have hhp' : ∀ b, b ≠ g' → w'.heap[b]? = w.heap[b]? := fun b hb => by rw [hw']; simp [Ne.symm hb]
      have hsz' : w'.heap.size = w.heap.size := by rw [hw']; simp
      have hcell : ∀ ad, S ad → w'.cell? ad = w.cell? ad := fun ad hs => World.cell?_of_block (hhp' _ (fun e => hS ad e hs))
      refine ⟨_, .tuple #[.bool true, goInt pos, .int .i32 q.1], w', S, μ, ?_, .inl rfl, ?_, ?_⟩
      · unfold execOp
        simp only [ho, hv]
        simp [Instr.next, hget, hsz0, hlt0, ← hq, hset]
      · show Sim nt w0 S0 E S μ { T := st.T, H := upd st.H nm (some (.siter s (pos + q.2))), D := moreD st.D nb } a w'
        refine (h.on (H' := upd st.H nm (some (.siter s (pos + q.2)))) (D' := st.D) (fun _ h => h) hcell (fun _ h => h) (fun _ _ => rfl) ?_ ?_ ?_ ?_ (fun _ _ h => h) (fun b hb => by rw [hsz']; exact h.slt b hb)).more (D' := moreD st.D nb) (fun m hm => .inl hm)
        · intro m o' hm
          by_cases em : m = nm
          · subst em
            rw [upd_same] at hm
            cases hm
            exact ⟨g', hg, hB, by rw [hsz']; exact hlt, hhg, hS⟩
          · rw [upd_ne _ _ em] at hm
            refine (h.heap m o' hm).keep (fun _ h => h) hcell (fun _ h => h) (fun _ _ => rfl) (h.lt hm) (by rw [hsz']; exact Nat.le_refl _) (fun gm hgm => ⟨hhp' gm (fun e => ?_), fun _ _ h => h⟩)
            subst e
            exact h.apart nm m _ _ hes hm (fun e => em e.symm) gm (by rw [hg]; rfl) hgm
        · intro m m' o1 o2 hm hm' hne gm hgm
          have e1 : ∃ o, st.H m = some o := by
            by_cases em : m = nm
            · subst em; exact ⟨_, hes⟩
            · rw [upd_ne _ _ em] at hm; exact ⟨_, hm⟩
          have e2 : ∃ o, st.H m' = some o := by
            by_cases em : m' = nm
            · subst em; exact ⟨_, hes⟩
            · rw [upd_ne _ _ em] at hm'; exact ⟨_, hm'⟩
          obtain ⟨p1, q1⟩ := e1
          obtain ⟨p2, q2⟩ := e2
          exact h.apart m m' p1 p2 q1 q2 hne gm hgm
        · intro m hm
          have e : m ≠ nm := fun e => hm (e ▸ h.lt hes)
          rw [upd_ne _ _ e]
          exact h.fresh m hm
        · refine ⟨?_, ?_, ?_, by rw [hsz']; exact Nat.le_refl _, fun b hb => hhp' b (by omega)⟩ <;> (rw [hw'])
      · refine .c (.tup _ _ rfl fun i p hp => ?_)
        rcases i with _ | _ | _ | i
        · simp at hp; subst hp; exact .bool true
        · simp at hp; subst hp; exact .int .i64 pos
        · simp at hp; subst hp; exact .int .i32 q.1
        · simp at hp
    · rename_i hge
      cases hev
      refine ⟨_, .tuple #[.bool false], w, S, μ, ?_, .inl rfl, h.more (D' := moreD st.D nb) (fun m hm => .inl hm), ?_⟩
      · unfold execOp
        simp only [ho, hv]
        simp [Instr.next, hget, hsz0, hge]
      · refine .c (.tup _ _ rfl fun i p hp => ?_)
        rcases i with _ | i
        · simp at hp; subst hp; exact .bool false
        · simp at hp
  · cases hev
theorem eqc_is {k : Shp} {ks : List Shp} {x y : PV} {xs ys : List PV} {b : Bool} (hx : kindOK (k :: ks) (x :: xs) = true) (hy : kindOK (k :: ks) (y :: ys) = true) (h : eqC x y = some b) : kindOK ks xs = true ∧ kindOK ks ys = true ∧ (b = true ↔ x = y) := by
  cases k <;> cases x <;> simp only [kindOK] at hx <;> first | cases hx; done | skip
  all_goals cases y <;> simp only [kindOK] at hy <;> first | cases hy; done | skip
  all_goals simp only [eqC, Option.some.injEq, Bool.and_eq_true, beq_iff_eq] at h hx hy
  all_goals grind
theorem eqcs_is : ∀ {ks : List Shp} {xs ys : List PV} {b : Bool}, kindOK ks xs = true → kindOK ks ys = true → eqCs xs ys = some b → (b = true ↔ xs = ys)
  | ks, [], [], b, _, _, h => by simp only [eqCs, Option.some.injEq] at h; subst h; simp
  | ks, [], _ :: _, b, _, _, h => by cases h
  | ks, _ :: _, [], b, _, _, h => by cases h
  | [], x :: xs, y :: ys, b, hx, _, h => by cases hx
  | k :: ks, x :: xs, y :: ys, b, hx, hy, h => by
    simp only [eqCs] at h
    cases h1 : eqC x y with
    | none => rw [h1] at h; cases h
    | some b1 =>
      rw [h1] at h
      obtain ⟨g1, g2, g3⟩ := eqc_is hx hy h1
      cases h2 : eqCs xs ys with
      | none => rw [h2] at h; cases h
      | some b2 =>
        rw [h2] at h
        have g4 := eqcs_is g1 g2 h2
        simp only [Option.some.injEq] at h
        subst h
        rw [Bool.and_eq_true, g3, g4, List.cons.injEq]
theorem keyE_is {kt : TypeId} {x y : PV} {b : Bool} (h : keyE P kt x y = some b) : b = true ↔ x = y := by
  unfold keyE at h
  split at h
  · split at h
    · cases h; simp
    · cases h
  · split at h
    · split at h
      · rename_i hk
        cases h
        simp [hk.2]
      · cases h
    · cases h
  · split at h
    · split at h
      · rename_i hk
        rw [eqcs_is hk.1 hk.2 h, PV.agg.injEq]
      · cases h
    · cases h
  · cases h
theorem look_mem {kt : TypeId} {k : PV} : ∀ {es : List (PV × PV)}, (es.map (·.1)).Nodup → ∀ e ∈ es, keyE P kt k e.1 = some true → lookL P kt k es = some e.2
  | [], _, e, he, _ => by simp at he
  | e' :: es, hn, e, he, hk => by
    simp only [List.map_cons, List.nodup_cons] at hn
    unfold lookL
    rcases List.mem_cons.1 he with h | h
    · subst h; rw [hk]
    · split
      · rename_i h2
        have e1 := (keyE_is hk).1 rfl
        have e2 := (keyE_is h2).1 rfl
        exact absurd (by rw [← e2, e1]; exact List.mem_map_of_mem h) hn.1
      · exact look_mem hn.2 e h hk
theorem look_not {kt : TypeId} {k : PV} : ∀ {es : List (PV × PV)}, (∀ e ∈ es, keyE P kt k e.1 ≠ some true) → lookL P kt k es = none
  | [], _ => rfl
  | e :: es, h => by
    unfold lookL
    split
    · rename_i h2; exact absurd h2 (h e (by simp))
    · exact look_not fun e' he' => h e' (by simp [he'])
theorem look_perm {kt : TypeId} {k : PV} {es es' : List (PV × PV)} (hp : es'.Perm es) (hn : (es.map (·.1)).Nodup) : lookL P kt k es' = lookL P kt k es := by
  by_cases hex : ∃ e ∈ es, keyE P kt k e.1 = some true
  · obtain ⟨e, he, hk⟩ := hex
    rw [look_mem hn e he hk, look_mem ((hp.map _).nodup_iff.2 hn) e (hp.mem_iff.2 he) hk]
  · have h1 : ∀ e ∈ es, keyE P kt k e.1 ≠ some true := fun e he hk => hex ⟨e, he, hk⟩
    rw [look_not h1, look_not fun e he => h1 e (hp.mem_iff.1 he)]
theorem mv_lookup {t : TypeId} {x y : Operand} {ok : Bool} (ho : o.op = .lookup t x y ok) {nm : Nat} {k : PV} (hev : lookE P t ok nm k (st.H nm) = some r) (hok : r.ok) (hx : Rel S μ st.D w (.mp nm) (a.eval x)) (hy : Rel S μ st.D w k (a.eval y)) (h : Sim nt w0 S0 E S μ st a w) : Moves P nt w0 S0 E st a w o nb r := by
  unfold lookE at hev
  split at hev
  · rename_i es hes
    split at hev
    · rename_i ag sz by_ z kt et ht
      obtain ⟨i, d, z', h1, h2, h3, hty⟩ := tyOf_inv ht
      have hd : d = .map kt et := by
        have h5 : shpOf P d = .map kt et := by injection hty with _ _ _ _ h5; exact h5.symm
        cases d <;> simp only [shpOf] at h5 <;> first | (injection h5 with h6 h7; rw [h6, h7]; done) | cases h5 | (split at h5 <;> cases h5)
      subst hd
      split at hev
      · rename_i te hte
        obtain ⟨i2, d2, z2, a2, b2, c2, e2⟩ := tyOf_inv hte
        split at hev
        · rename_i hko
          cases hev
          obtain ⟨g, hv, hD, hg⟩ := rel_mp hx
          obtain ⟨es', ⟨hpm, hnd⟩, g', arr, clk, hg', hB, hlt, hhp, hsz, hrel, _⟩ := h.heap nm _ hes
          rw [hg] at hg'
          have hgg : g' = g := by injection hg' with h; injection h with h; exact h.symm
          subst hgg
          obtain ⟨rr, hf, hm⟩ := find_run (P := P) hko hy es' arr.toList (by simpa using hsz) (fun i e hi => by
            obtain ⟨x, hx, r1, r2⟩ := hrel i e hi
            exact ⟨x, by rw [Array.getElem?_toList]; exact hx, r1, r2⟩) (fun e he => hok e (hpm.mem_iff.1 he))
          rw [look_perm hpm hnd] at hm
          have hck := check_run (P := P) hko hy arr.isEmpty 9998
          have hget : (getObj g').run P w = .ok (.map arr clk) w := by simp [getObj, Sem.run, hhp]
          have hzr : te.zero = ofVal z2 := by rw [e2]
          have hrz : Rel S μ st.D w te.zero z2 := by rw [hzr]; exact rel_ofVal z2
          have two : ∀ {p : PV} {v : Value} {b : Bool}, Rel S μ st.D w p v → Rel S μ st.D w (.tup [p, .bool b]) (.tuple #[v, .bool b]) := fun {p v b} hr => .tup _ _ rfl (fun i q hi => by
            rcases i with _ | _ | i
            · simp at hi; subst hi; exact hr
            · simp at hi; subst hi; exact .c (.bool b)
            · simp at hi)
          have fin : ∀ v, (Instr.lookup t (.map (some g')) (a.eval y) ok).run P w = .ok v w → Rel S μ st.D w (lookR ok te.zero (lookL P kt k es)) v → Moves P nt w0 S0 E st a w o nb ⟨∀ e ∈ es, (keyE P kt k e.1).isSome = true, lookR ok te.zero (lookL P kt k es), [nm], []⟩ := fun v hrun hr => by
            refine ⟨_, v, w, S, μ, ?_, .inl rfl, h.more (D' := moreD st.D nb) (fun _ h => .inl h), hr.mono (fun _ h => h) (fun _ _ => rfl) (fun _ h => .inl h) (fun _ _ => rfl)⟩
            unfold execOp
            simp only [ho, hv]
            simp [hrun]
          cases hlk : lookL P kt k es with
          | none =>
            rw [hlk] at hm
            subst hm
            rw [← hlk]
            refine fin (if ok then .tuple #[z2, .bool false] else z2) ?_ ?_
            · simp [Instr.lookup, run_underlying h2, hget, hck, hf, zeroValue, typeInfo, a2, c2]
            · rw [hlk]
              cases ok
              · exact hrz
              · exact two hrz
          | some p =>
            rw [hlk] at hm
            obtain ⟨i', v, rfl, hr⟩ := hm
            rw [← hlk]
            refine fin (if ok then .tuple #[v, .bool true] else v) ?_ ?_
            · simp [Instr.lookup, run_underlying h2, hget, hck, hf]
            · rw [hlk]
              cases ok
              · exact hr
              · exact two hr
        · cases hev
      · cases hev
    · cases hev
  · cases hev
theorem mv_insert {t : TypeId} {x y u : Operand} (ho : o.op = .insert t x y u ∨ o.op = .mapUpdate t x y u) {nm : Nat} {k v : PV} (hev : insE P t nm k v (st.H nm) = some r) (hok : r.ok) (hx : Rel S μ st.D w (.mp nm) (a.eval x)) (hy : Rel S μ st.D w k (a.eval y)) (hu : Rel S μ st.D w v (a.eval u)) (h : Sim nt w0 S0 E S μ st a w) : Moves P nt w0 S0 E st a w o nb r := by
  unfold insE at hev
  split at hev
  · rename_i es hes
    split at hev
    · rename_i ag sz by_ z kt et ht
      obtain ⟨i, d, z', h1, h2, h3, hty⟩ := tyOf_inv ht
      have hd : d = .map kt et := by
        have h5 : shpOf P d = .map kt et := by injection hty with _ _ _ _ h5; exact h5.symm
        cases d <;> simp only [shpOf] at h5 <;> first | (injection h5 with h6 h7; rw [h6, h7]; done) | cases h5 | (split at h5 <;> cases h5)
      subst hd
      split at hev
      · rename_i hko
        cases hev
        have hD := h.lt hes
        obtain ⟨g, hv, hDm, hg⟩ := rel_mp hx
        obtain ⟨es', ⟨hpm, hnd⟩, g', arr, clk, hg', hB, hlt, hhp, hsz, hrel, hS⟩ := h.heap nm _ hes
        rw [hg] at hg'
        have hgg : g' = g := by injection hg' with h; injection h with h; exact h.symm
        subst hgg
        obtain ⟨rr, hf, hm⟩ := find_run (P := P) hko hy es' arr.toList (by simpa using hsz) (fun i e hi => by
          obtain ⟨x, hx, r1, r2⟩ := hrel i e hi
          exact ⟨x, by rw [Array.getElem?_toList]; exact hx, r1, r2⟩) (fun e he => by rw [hok e (hpm.mem_iff.1 he)]; rfl)
        have hno : lookL P kt k es' = none := look_not fun e he => by rw [hok e (hpm.mem_iff.1 he)]; simp
        rw [hno] at hm
        subst hm
        have hck := check_run (P := P) hko hy false 9998
        have hget : (getObj g').run P w = .ok (.map arr clk) w := by simp [getObj, Sem.run, hhp]
        obtain ⟨w', hw'⟩ : ∃ w' : World, w' = { w with heap := w.heap.setIfInBounds g' (.map (arr.push { key := a.eval y, val := a.eval u, born := clk }) (clk + 1)) } := ⟨_, rfl⟩
        have hset : (setObj g' (.map (arr.push { key := a.eval y, val := a.eval u, born := clk }) (clk + 1))).run P w = .ok () w' := by rw [hw']; simp [setObj, Sem.run, hhp]
        have hhg : w'.heap[g']? = some (.map (arr.push { key := a.eval y, val := a.eval u, born := clk }) (clk + 1)) := by rw [hw']; simp [hlt]
        have hhp' : ∀ b, b ≠ g' → w'.heap[b]? = w.heap[b]? := fun b hb => by rw [hw']; simp [Ne.symm hb]
        have hsz' : w'.heap.size = w.heap.size := by rw [hw']; simp
        have hcell : ∀ ad, S ad → w'.cell? ad = w.cell? ad := fun ad hs => World.cell?_of_block (hhp' _ (fun e => hS.1 ad e hs))
        have hrun : (Instr.mapUpdate t (.map (some g')) (a.eval y) (a.eval u)).run P w = .ok () w' := by
          simp [Instr.mapUpdate, run_underlying h2, hget, hck, hf, hset]
        refine ⟨_, undef, w', S, μ, ?_, .inr ⟨rfl, rfl⟩, ?_, .c (.undef _)⟩
        · unfold execOp
          rcases ho with ho | ho <;> (simp only [ho, hv]; simp [hrun])
        · show Sim nt w0 S0 E S μ { T := st.T, H := upd st.H nm (some (.map (es ++ [(k, v)]))), D := moreD st.D nb } a w'
          refine (h.on (H' := upd st.H nm (some (.map (es ++ [(k, v)])))) (D' := st.D) (fun _ h => h) hcell (fun _ h => h) (fun _ _ => rfl) ?_ ?_ ?_ ?_ (fun _ _ h => h) (fun b hb => by rw [hsz']; exact h.slt b hb)).more (D' := moreD st.D nb) (fun m hm => .inl hm)
          · intro m o' hm
            by_cases em : m = nm
            · subst em
              rw [upd_same] at hm
              cases hm
              refine ⟨es' ++ [(k, v)], ⟨hpm.append_right _, ?_⟩, g', _, _, hg, hB, by rw [hsz']; exact hlt, hhg, by simp [hsz], fun i e hi => ?_, hS.1, born_push hS.2 rfl⟩
              · rw [List.map_append, List.nodup_append]
                refine ⟨hnd, by simp, fun x hx1 y hy1 exy => ?_⟩
                simp only [List.map_cons, List.map_nil, List.mem_singleton] at hy1
                subst hy1
                subst exy
                obtain ⟨e, he, ee⟩ := List.mem_map.1 hx1
                have := (keyE_is (hok e he)).2 ee.symm
                cases this
              rw [List.getElem?_append] at hi
              split at hi
              · rename_i hlt'
                obtain ⟨x, hx, r1, r2⟩ := hrel i e hi
                refine ⟨x, ?_, r1.mono (fun _ h => h) hcell (fun _ h => h) (fun _ _ => rfl), r2.mono (fun _ h => h) hcell (fun _ h => h) (fun _ _ => rfl)⟩
                rw [Array.getElem?_push]
                rw [if_neg (by omega)]
                exact hx
              · rename_i hge
                have hi0 : i - es'.length = 0 := by
                  have := (List.getElem?_eq_some_iff.1 hi).1
                  simp at this
                  omega
                rw [hi0] at hi
                simp only [List.getElem?_cons_zero, Option.some.injEq] at hi
                subst hi
                refine ⟨{ key := a.eval y, val := a.eval u, born := clk }, ?_, hy.mono (fun _ h => h) hcell (fun _ h => h) (fun _ _ => rfl), hu.mono (fun _ h => h) hcell (fun _ h => h) (fun _ _ => rfl)⟩
                rw [Array.getElem?_push, if_pos (by omega)]
            · rw [upd_ne _ _ em] at hm
              refine (h.heap m o' hm).keep (fun _ h => h) hcell (fun _ h => h) (fun _ _ => rfl) (h.lt hm) (by rw [hsz']; exact Nat.le_refl _) (fun gm hgm => ⟨hhp' gm (fun e => ?_), fun _ _ h => h⟩)
              subst e
              exact h.apart m nm o' _ hm hes em gm hgm (by rw [hg]; rfl)
          · intro m m' o1 o2 hm hm' hne gm hgm
            have f1 : ∀ m o', upd st.H nm (some (.map (es ++ [(k, v)]))) m = some o' → ∃ o'', st.H m = some o'' := by
              intro m o' hm
              by_cases em : m = nm
              · subst em; exact ⟨_, hes⟩
              · rw [upd_ne _ _ em] at hm; exact ⟨_, hm⟩
            obtain ⟨p1, hp1⟩ := f1 m o1 hm
            obtain ⟨p2, hp2⟩ := f1 m' o2 hm'
            exact h.apart m m' p1 p2 hp1 hp2 hne gm hgm
          · intro m hm
            rw [upd_ne _ _ (fun e : m = nm => hm (by rw [e]; exact hD))]
            exact h.fresh m hm
          · refine ⟨?_, ?_, ?_, by rw [hsz']; exact Nat.le_refl _, fun b hb => hhp' b (by omega)⟩ <;> rw [hw']
      · cases hev
    · cases hev
  · cases hev
end
end Go.Proofs.YtgagnohelibaoaaDoor
