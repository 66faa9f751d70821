import Derived.Test.YtgagnohelibaoaaDoorQ
/-! That a quiet operation in memory comes to what it comes to without: the rest. -/
set_option linter.unusedSimpArgs false
set_option linter.unusedVariables false
namespace Go.Proofs.YtgagnohelibaoaaDoor
open Go.RowKit

section
variable {P : Program} {S : Addr → Prop} {μ : Nat → Value} {D : Nat → Prop} {w : World} {r : Res} {ρ : Operand → Value} {o : Oper} {p : Operand → PV}

theorem st_extract {x : Operand} {i : Nat} (ho : o.op = .extract x i) {vs : List PV} {p : PV} (hi : vs[i]? = some p) (h : qv p = some r) (hx : Rel S μ D w (.tup vs) (ρ x)) : Still P S μ D w ρ o r := by
  rw [qv_inv h]
  obtain ⟨arr, e, hs, hr⟩ := rel_tup hx
  have hlt : i < arr.size := by rw [hs]; exact (List.getElem?_eq_some_iff.1 hi).1
  refine ⟨arr.getD i undef, ?_, hr i p hi⟩
  unfold execOp
  simp only [ho, e]
  simp [Instr.extract, hlt]
theorem st_field {t : TypeId} {x : Operand} {f : Nat} (ho : o.op = .field t x f) {px : PV} (h : fieldE P t f px = some r) (hx : Rel S μ D w px (ρ x)) : Still P S μ D w ρ o r := by
  unfold fieldE at h
  split at h
  · rename_i cs ag sz by_ z fs ht
    obtain ⟨i, d, z', h1, h2, h3, hty⟩ := tyOf_inv ht
    obtain ⟨fields, rfl, hfs⟩ := shp_strct (P := P) (d := d) (fs := fs) (by injection hty with _ _ _ _ h5; exact h5.symm)
    split at h
    · rename_i off u sz' hf
      split at h
      · rename_i p hp
        rw [qv_inv h]
        obtain ⟨arr, e, hs, hr⟩ := rel_agg hx
        obtain ⟨v, hv, hr'⟩ := part_run hp hs hr
        rw [hfs, List.getElem?_map, Array.getElem?_toList] at hf
        cases hff : fields[f]? with
        | none => rw [hff] at hf; cases hf
        | some fd =>
          rw [hff] at hf
          simp only [Option.map_some, Option.some.injEq, Prod.mk.injEq] at hf
          obtain ⟨rfl, rfl, _⟩ := hf
          refine ⟨v, ?_, hr'⟩
          unfold execOp
          simp only [ho, e]
          simp [Instr.field, run_underlying h2, hff, asAgg, hv]
      · cases h
    · cases h
  · cases h
theorem st_faddr {t : TypeId} {x : Operand} {f : Nat} (ho : o.op = .fieldAddr t x f) {px : PV} (h : faddrE P t f px = some r) (hx : Rel S μ D w px (ρ x)) : Still P S μ D w ρ o r := by
  unfold faddrE at h
  split at h
  · rename_i ag sz by_ z fs ht
    obtain ⟨i, d, z', h1, h2, h3, hty⟩ := tyOf_inv ht
    obtain ⟨fields, rfl, hfs⟩ := shp_strct (P := P) (d := d) (fs := fs) (by injection hty with _ _ _ _ h5; exact h5.symm)
    split at h
    · rename_i off u sz' hf
      split at h
      · cases h
      rename_i hsz
      rw [hfs, List.getElem?_map, Array.getElem?_toList] at hf
      cases hff : fields[f]? with
      | none => rw [hff] at hf; cases hf
      | some fd =>
        rw [hff] at hf
        simp only [Option.map_some, Option.some.injEq, Prod.mk.injEq] at hf
        obtain ⟨rfl, rfl, hsz'⟩ := hf
        obtain ⟨fi, hfi⟩ : ∃ fi, P.info? fd.type = some fi := by
          cases hc : P.info? fd.type with
          | none => exfalso; apply hsz; rw [← hsz']; simp [Program.cellsOf, hc]
          | some fi => exact ⟨fi, rfl⟩
        have hne : ¬ fi.size = 0 := by rw [cellsOf_eq hfi] at hsz'; rw [hsz']; exact hsz
        split at h
        · rename_i nm off
          rw [qv_inv h]
          obtain ⟨g, e, hD, hg⟩ := rel_ptr hx
          refine ⟨.pointer (some ⟨g, off + fd.offset, none⟩), ?_, .ptr nm _ g hD hg⟩
          unfold execOp
          simp only [ho, e]
          simp [Instr.fieldAt, run_underlying h2, hff, Instr.sureAddr, fieldPlace, sizeOf_run hfi, hne, Addr.add_lit]
        · rename_i cs
          rw [qv_inv h]
          obtain ⟨ad, u, e, hone, hcell, hrel⟩ := rel_iptr hx
          refine ⟨.pointer (some (ad.add fd.offset)), ?_, .c (.iptr (cs.drop fd.offset) (ad.add fd.offset) (fun j => u (fd.offset + j)) (fun j => hone _) (fun j p hp => ?_) (fun j p hp => ?_))⟩
          · unfold execOp
            simp only [ho, e]
            simp [Instr.fieldAt, run_underlying h2, hff, Instr.sureAddr, fieldPlace, sizeOf_run hfi, hne]
          · rw [List.getElem?_drop] at hp
            rw [Addr.add_add]
            exact hcell _ p hp
          · rw [List.getElem?_drop] at hp
            exact hrel _ p hp
        · cases h
    · cases h
  · cases h
theorem st_iaddr {t : TypeId} {x y : Operand} (ho : o.op = .indexAddr t x y) {px py : PV} (h : iaddrE P t px py = some r) (hok : r.ok) (hx : Rel S μ D w px (ρ x)) (hy : Rel S μ D w py (ρ y)) : Still P S μ D w ρ o r := by
  unfold iaddrE at h
  split at h
  · rename_i k n
    have ey := rel_int hy
    split at h
    · rename_i t' xs ag sz by_ z e ht
      obtain ⟨i, d, z', h1, h2, h3, hty⟩ := tyOf_inv ht
      have hd := shp_slice (P := P) (d := d) (e := e) (by injection hty with _ _ _ _ h5; exact h5.symm)
      subst hd
      split at h
      · rename_i te hte
        obtain ⟨i2, d2, z2, a2, b2, c2, e2⟩ := tyOf_inv hte
        rw [qc_inv h] at hok ⊢
        obtain ⟨⟨hn0, hn1⟩, hlen⟩ := hok
        have hcr := rel_sl hx
        have hsz : te.size = i2.size := by rw [e2]
        rw [hsz] at hlen
        generalize hv : ρ x = v at hcr
        cases hcr with
        | sl _ _ A c k' u ht' h0 hn hc hm hk hone hcell hrel =>
          have hlt : n.toNat < xs.length := by omega
          have hxi : xs[n.toNat]? = some (xs.getD n.toNat []) := by simp [List.getD, List.getElem?_eq_getElem hlt]
          have hk' : k' = i2.size := by
            have := hk _ (List.mem_of_getElem? hxi)
            omega
          subst hk'
          have hlt' : n.toNat < xs.length := hlt
          cases A with
          | none => have := (hn rfl).1; subst this; simp at hlt
          | some ad =>
            refine ⟨.pointer (some (ad.add (n.toNat * i2.size))), ?_, .c (.iptr _ _ (u n.toNat) (hone _) (fun j p hp => ?_) (fun j p hp => ?_))⟩
            · unfold execOp
              simp only [ho, hv, ey]
              have hb : 0 ≤ n ∧ n < (xs.length : Int) := ⟨hn0, hn1⟩
              simp [Instr.indexAt, asIntOf, run_underlying h2, hb, sizeOf_run a2]
            · obtain ⟨ad', e1, h4, h5⟩ := hcell n.toNat j _ p hxi hp
              cases e1
              rw [Addr.add_add]
              exact ⟨h4, h5⟩
            · exact hrel n.toNat j _ p hxi hp
      · cases h
    · rename_i nm off kk nn mm ag sz by_ z e ht
      obtain ⟨i, d, z', h1, h2, h3, hty⟩ := tyOf_inv ht
      have hd := shp_slice (P := P) (d := d) (e := e) (by injection hty with _ _ _ _ h5; exact h5.symm)
      subst hd
      split at h
      · rename_i te hte
        obtain ⟨i2, d2, z2, a2, b2, c2, e2⟩ := tyOf_inv hte
        rw [qc_inv h] at hok ⊢
        obtain ⟨⟨hn0, hn1⟩, hkk⟩ := hok
        obtain ⟨g, oo, c, e', hD, hg, hoo, hnm, hmc, hcm⟩ := rel_bs hx
        have hoo := hoo (by omega)
        subst hoo
        have hsz : te.size = i2.size := by rw [e2]
        refine ⟨.pointer (some ⟨g, oo + n.toNat * te.size, none⟩), ?_, .ptr nm _ g hD hg⟩
        unfold execOp
        simp only [ho, e', ey]
        have hb : 0 ≤ n ∧ n < (nn : Int) := ⟨hn0, hn1⟩
        simp [Instr.indexAt, asIntOf, run_underlying h2, hb, sizeOf_run a2, Addr.add_lit, hsz]
      · cases h
    · rename_i nm off ag sz by_ z m e ht
      obtain ⟨i, d, z', h1, h2, h3, hty⟩ := tyOf_inv ht
      have hd := shp_array (P := P) (d := d) (n := m) (e := e) (by injection hty with _ _ _ _ h5; exact h5.symm)
      subst hd
      split at h
      · rename_i te hte
        obtain ⟨i2, d2, z2, a2, b2, c2, e2⟩ := tyOf_inv hte
        rw [qc_inv h] at hok ⊢
        obtain ⟨hn0, hn1⟩ := hok
        obtain ⟨g, e', hD, hg⟩ := rel_ptr hx
        have hsz : te.size = i2.size := by rw [e2]
        refine ⟨.pointer (some ⟨g, off + n.toNat * te.size, none⟩), ?_, .ptr nm _ g hD hg⟩
        unfold execOp
        simp only [ho, e', ey]
        have hb : 0 ≤ n ∧ n < (m : Int) := ⟨hn0, hn1⟩
        simp [Instr.indexAt, asIntOf, run_underlying h2, hb, sizeOf_run a2, Instr.sureAddr, Addr.add_lit, hsz]
      · cases h
    · rename_i cs ag sz by_ z m e ht
      obtain ⟨i, d, z', h1, h2, h3, hty⟩ := tyOf_inv ht
      have hd := shp_array (P := P) (d := d) (n := m) (e := e) (by injection hty with _ _ _ _ h5; exact h5.symm)
      subst hd
      split at h
      · rename_i te hte
        obtain ⟨i2, d2, z2, a2, b2, c2, e2⟩ := tyOf_inv hte
        rw [qc_inv h] at hok ⊢
        obtain ⟨hn0, hn1⟩ := hok
        obtain ⟨ad, u, e', hone, hcell, hrel⟩ := rel_iptr hx
        have hsz : te.size = i2.size := by rw [e2]
        refine ⟨.pointer (some (ad.add (n.toNat * te.size))), ?_, .c (.iptr _ _ (fun j => u (n.toNat * te.size + j)) (fun j => hone _) (fun j p hp => ?_) (fun j p hp => ?_))⟩
        · unfold execOp
          simp only [ho, e', ey]
          have hb : 0 ≤ n ∧ n < (m : Int) := ⟨hn0, hn1⟩
          simp [Instr.indexAt, asIntOf, run_underlying h2, hb, sizeOf_run a2, Instr.sureAddr, hsz]
        · rw [List.getElem?_drop] at hp
          rw [Addr.add_add]
          exact hcell _ p hp
        · rw [List.getElem?_drop] at hp
          exact hrel _ p hp
      · cases h
    · cases h
  · cases h
theorem st_index {t : TypeId} {x y : Operand} (ho : o.op = .index t x y) {px py : PV} (h : indexE P t px py = some r) (hok : r.ok) (hx : Rel S μ D w px (ρ x)) (hy : Rel S μ D w py (ρ y)) : Still P S μ D w ρ o r := by
  unfold indexE at h
  split at h
  · rename_i k n
    have ey := rel_int hy
    split at h
    · rename_i l ag sz by_ z ht
      obtain ⟨i, d, z', h1, h2, h3, hty⟩ := tyOf_inv ht
      have hd := shp_str (P := P) (d := d) (by injection hty with _ _ _ _ h5; exact h5.symm)
      subst hd
      rw [qc_inv h] at hok ⊢
      obtain ⟨hn0, hn1⟩ := hok
      have ex := rel_str hx
      have hlt : n.toNat < l.length := by omega
      refine ⟨.int .u8 ((l.getD n.toNat 0).toNat : Int), ?_, .c (.int _ _)⟩
      unfold execOp
      simp only [ho, ex, ey]
      have hget : (if 0 ≤ n then (ByteArray.mk l.toArray)[n.toNat]? else none) = some (l.getD n.toNat 0) := by
        rw [if_pos hn0]
        have hs : n.toNat < (ByteArray.mk l.toArray).size := by simpa [ByteArray.size] using hlt
        rw [getElem?_pos (ByteArray.mk l.toArray) n.toNat hs]
        congr 1
        show l.toArray[n.toNat] = _
        simp [List.getD, List.getElem?_eq_getElem hlt]
      simp only [Instr.index, asIntOf, Sem.run_bind, Sem.run_pure, Result.andThen_ok, run_underlying h2, hget]
    · cases h
  · cases h
theorem st_nil {x : Operand} (ho : o.op = .nilCheck x) {px : PV} (h : nilE px = some r) (hx : Rel S μ D w px (ρ x)) : Still P S μ D w ρ o r := by
  unfold nilE at h
  split at h
  · rw [qv_inv h]
    obtain ⟨g, e, hD, hg⟩ := rel_ptr hx
    refine ⟨ρ x, ?_, hx⟩
    unfold execOp
    simp only [ho, e]
    simp
  · rw [qv_inv h]
    obtain ⟨ad, u, e, _⟩ := rel_iptr hx
    refine ⟨ρ x, ?_, hx⟩
    unfold execOp
    simp only [ho, e]
    simp
  · rw [qv_inv h]
    obtain ⟨fs, cs, e, _⟩ := rel_clo hx
    refine ⟨ρ x, ?_, hx⟩
    unfold execOp
    simp only [ho, e]
    simp
  · cases h
theorem st_load {t : TypeId} {x : Operand} (ho : o.op = .load t x) {px : PV} {B : Nat} {H : Nat → Option HObj} (hH : ∀ nm o, H nm = some o → HRel B S μ D w nm o) (h : loadE P t H px = some r) (hx : Rel S μ D w px (ρ x)) : Still P S μ D w ρ o r ∧ r.wr = [] := by
  unfold loadE at h
  split at h
  · rename_i nm off
    split at h
    · rename_i cs hcs
      split at h
      · rename_i p hp
        cases h
        obtain ⟨g, e, hD, hg⟩ := rel_ptr hx
        obtain ⟨g', hg', _, _, hcell, _⟩ := hH nm _ hcs
        rw [hg] at hg'
        have hgg : g' = g := by injection hg' with h; injection h with h; injection h with h; exact h.symm
        subst hgg
        have hall : ∀ j : Nat, ∃ v, ∀ q, cs[off + j]? = some q → w.cell? ⟨g', off + j, none⟩ = some v ∧ Rel S μ D w q v := fun j => by
          cases hc : cs[off + j]? with
          | none => exact ⟨undef, fun q h => by cases h⟩
          | some q =>
            obtain ⟨v, h1, h2⟩ := hcell _ q hc
            exact ⟨v, fun q' h => by cases h; exact ⟨h1, h2⟩⟩
        obtain ⟨f, hf⟩ := Classical.axiomOfChoice hall
        obtain ⟨v, hv, hr⟩ := loadVar_run (P := P) (S := S) (μ := μ) (D := D) (w := w) hp ⟨g', off, none⟩ f (fun j q hq => by rw [Addr.add_lit]; exact (hf j q hq).1) (fun j q hq => (hf j q hq).2)
        refine ⟨⟨v, ?_, hr⟩, rfl⟩
        unfold execOp
        simp only [ho, e]
        simp [Instr.loadAt, Instr.sureAddr, hv]
      · cases h
    · cases h
  · rename_i cs
    split at h
    · rename_i p hp
      rw [qv_inv h]
      obtain ⟨ad, u, e, hone, hcell, hrel⟩ := rel_iptr hx
      obtain ⟨v, hv, hr⟩ := loadVar_run (P := P) (S := S) (μ := μ) (D := D) (w := w) hp ad u (fun j q hq => by rw [Nat.zero_add] at hq; exact (hcell j q hq).2) (fun j q hq => by rw [Nat.zero_add] at hq; exact .c (hrel j q hq))
      refine ⟨⟨v, ?_, hr⟩, rfl⟩
      unfold execOp
      simp only [ho, e]
      simp [Instr.loadAt, Instr.sureAddr, hv]
    · cases h
  · cases h
theorem st_len {c : Call} (ho : o.op = .call c) (hc : c.callee = .builtin .len) (h : lenE P c.argTypes.toList (c.args.toList.map fun x => p x) = some r) (hx : ∀ x, Rel S μ D w (p x) (ρ x)) : Still P S μ D w ρ o r := by
  obtain ⟨callee, args, ts⟩ := c
  obtain ⟨args⟩ := args
  obtain ⟨ts⟩ := ts
  simp only at hc
  subst hc
  unfold lenE at h
  split at h
  · rename_i t t' xs e1 e2
    obtain ⟨x, rfl⟩ : ∃ x, args = [x] := by
      cases args with
      | nil => cases e2
      | cons x args =>
        cases args with
        | nil => exact ⟨x, rfl⟩
        | cons y args => simp at e2
    simp only [List.map_cons, List.map_nil, List.cons.injEq, and_true] at e1 e2
    split at h
    · rename_i ag sz by_ z e ht
      obtain ⟨i, d, z', h1, h2, h3, hty⟩ := tyOf_inv ht
      have hd := shp_slice (P := P) (d := d) (e := e) (by injection hty with _ _ _ _ h5; exact h5.symm)
      subst hd
      rw [qv_inv h]
      have hx' := hx x
      rw [e2] at hx'
      obtain ⟨A, c, hv, _⟩ := crel_sl (rel_sl hx')
      refine ⟨.int .i64 xs.length, ?_, .c (.int _ _)⟩
      unfold execOp
      simp only [ho]
      subst e1
      simp [resolve, invoke, builtin, Builtin.len_, hv, run_underlying h2, goInt]
    · cases h
  · rename_i t l e1 e2
    obtain ⟨x, rfl⟩ : ∃ x, args = [x] := by
      cases args with
      | nil => cases e2
      | cons x args =>
        cases args with
        | nil => exact ⟨x, rfl⟩
        | cons y args => simp at e2
    simp only [List.map_cons, List.map_nil, List.cons.injEq, and_true] at e1 e2
    split at h
    · rename_i ag sz by_ z ht
      obtain ⟨i, d, z', h1, h2, h3, hty⟩ := tyOf_inv ht
      have hd := shp_str (P := P) (d := d) (by injection hty with _ _ _ _ h5; exact h5.symm)
      subst hd
      rw [qv_inv h]
      have hx' := hx x
      rw [e2] at hx'
      have hv := rel_str hx'
      have hsz : (ByteArray.mk l.toArray).size = l.length := by simp [ByteArray.size]
      refine ⟨.int .i64 l.length, ?_, .c (.int _ _)⟩
      unfold execOp
      simp only [ho]
      subst e1
      simp [resolve, invoke, builtin, Builtin.len_, hv, run_underlying h2, goInt, hsz]
    · cases h
  · rename_i t nm off kk nn mm e1 e2
    obtain ⟨x, rfl⟩ : ∃ x, args = [x] := by
      cases args with
      | nil => cases e2
      | cons x args =>
        cases args with
        | nil => exact ⟨x, rfl⟩
        | cons y args => simp at e2
    simp only [List.map_cons, List.map_nil, List.cons.injEq, and_true] at e1 e2
    split at h
    · rename_i ag sz by_ z e ht
      obtain ⟨i, d, z', h1, h2, h3, hty⟩ := tyOf_inv ht
      have hd := shp_slice (P := P) (d := d) (e := e) (by injection hty with _ _ _ _ h5; exact h5.symm)
      subst hd
      rw [qv_inv h]
      have hx' := hx x
      rw [e2] at hx'
      obtain ⟨g, oo, c, hv, _⟩ := rel_bs hx'
      refine ⟨.int .i64 nn, ?_, .c (.int _ _)⟩
      unfold execOp
      simp only [ho]
      subst e1
      simp [resolve, invoke, builtin, Builtin.len_, hv, run_underlying h2, goInt]
    · cases h
  · cases h
end
end Go.Proofs.YtgagnohelibaoaaDoor
