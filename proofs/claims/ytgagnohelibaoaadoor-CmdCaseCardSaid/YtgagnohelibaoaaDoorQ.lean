import Derived.Test.YtgagnohelibaoaaDoorP
import Derived.Lib.SliceRun
/-! That a quiet operation in memory comes to what it comes to without: one by one. -/
set_option linter.unusedSimpArgs false
set_option linter.unusedVariables false
namespace Go.Proofs.YtgagnohelibaoaaDoor
open Go.RowKit

section
variable {P : Program} {S : Addr → Prop} {μ : Nat → Value} {D : Nat → Prop} {w : World} {r : Res} {ρ : Operand → Value} {o : Oper}

/-- The operation comes to a value, and memory stays. -/
def Still (P : Program) (S : Addr → Prop) (μ : Nat → Value) (D : Nat → Prop) (w : World) (ρ : Operand → Value) (o : Oper) (r : Res) : Prop := ∃ v, (execOp ρ o).run P w = .ok (.value v) w ∧ Rel S μ D w r.val v

theorem qv_inv {p : PV} (h : qv p = some r) : r = ⟨True, p, [], []⟩ := (Option.some.inj h).symm
theorem qc_inv {c : Prop} {p : PV} (h : qc c p = some r) : r = ⟨c, p, [], []⟩ := (Option.some.inj h).symm

theorem st_move {x : Operand} (ho : o.op = .move x ∨ o.op = .assign x) {p : PV} (h : qv p = some r) (hx : Rel S μ D w p (ρ x)) : Still P S μ D w ρ o r := by
  rw [qv_inv h]
  refine ⟨ρ x, ?_, hx⟩
  rcases ho with ho | ho <;> (unfold execOp; simp only [ho]; rfl)
theorem st_pick {c x y : Operand} (ho : o.op = .pick c x y) {pc px py : PV} (h : pickE pc px py = some r) (hc : Rel S μ D w pc (ρ c)) (hx : Rel S μ D w px (ρ x)) (hy : Rel S μ D w py (ρ y)) : Still P S μ D w ρ o r := by
  unfold pickE at h
  split at h
  · rename_i b
    have e := rel_bool hc
    have run : (execOp ρ o).run P w = .ok (.value (if b then ρ x else ρ y)) w := by
      unfold execOp; simp only [ho, e, asBool]; cases b <;> simp
    split at h
    · rename_i u v
      rw [qv_inv h]
      have e1 := rel_bool hx; have e2 := rel_bool hy
      refine ⟨_, run, ?_⟩
      cases b
      · rw [if_neg (by simp), e2]; exact .c (.bool _)
      · rw [if_pos rfl, e1]; exact .c (.bool _)
    · cases b
      · rw [cond_false] at h
        rw [qv_inv h]
        exact ⟨_, run, hy⟩
      · rw [cond_true] at h
        rw [qv_inv h]
        exact ⟨_, run, hx⟩
  · cases h

theorem int_run {op : BinOp} {k : IntKind} {a b : Int} (h : intE op k a b = some r) (hok : r.ok) (t : TypeId) : ∃ v, (binOp op t (.int k a) (.int k b)).run P w = .ok v w ∧ Rel S μ D w r.val v := by
  cases op <;> simp only [intE] at h <;> first
    | cases h; done
    | (rw [qv_inv h]; exact ⟨_, by simp [binOp, Op.intArith, Op.intCmp, Op.intBits], .c (.int _ _)⟩)
    | (rw [qv_inv h]; exact ⟨_, by simp [binOp, Op.intArith, Op.intCmp, Op.intBits], .c (.bool _)⟩)
    | (rw [qc_inv h] at hok ⊢; have hne : ¬ b = 0 := hok; exact ⟨_, by simp [binOp, Op.intDiv, hne], .c (.int _ _)⟩)
theorem bytes_toList (l : List UInt8) : (ByteArray.mk l.toArray).toList = l := by
  simp [ByteArray.toList_eq]
theorem str_run {op : BinOp} {a b : List UInt8} (h : strE op a b = some r) (hok : r.ok) (t : TypeId) : ∃ v, (binOp op t (.string ⟨a.toArray⟩) (.string ⟨b.toArray⟩)).run P w = .ok v w ∧ Rel S μ D w r.val v := by
  cases op <;> simp only [strE] at h <;> first
    | cases h; done
    | (rw [qv_inv h]; exact ⟨_, (by simp only [binOp, Op.stringOp, bytes_toList]; rfl), .c (.bool _)⟩)
    | skip
  rw [qc_inv h] at hok ⊢
  have hle : a.length + b.length ≤ 9223372036854775807 := hok
  have e : (ByteArray.mk a.toArray ++ ByteArray.mk b.toArray) = ⟨(a ++ b).toArray⟩ := by
    apply ByteArray.ext
    simp [ByteArray.data_append]
  refine ⟨.string ⟨(a ++ b).toArray⟩, ?_, .c (.str _)⟩
  have s1 : (ByteArray.mk a.toArray).size = a.length := by simp [ByteArray.size]
  have s2 : (ByteArray.mk b.toArray).size = b.length := by simp [ByteArray.size]
  have hn : ¬ ((a.length : Int) + b.length > 9223372036854775807) := by omega
  simp only [binOp, Op.stringOp, s1, s2, e, IntKind.max_i64, Int.natCast_add, if_neg hn]
  simp

theorem shp_int {d : TypeDesc} {k : IntKind} (h : shpOf P d = .int k) : d = .int k := by
  cases d <;> simp only [shpOf] at h <;> first | cases h | (split at h <;> cases h)
  rfl
theorem shp_str {d : TypeDesc} (h : shpOf P d = .str) : d = .string := by
  cases d <;> simp only [shpOf] at h <;> first | cases h | (split at h <;> cases h)
  rfl
theorem shp_slice {d : TypeDesc} {e : TypeId} (h : shpOf P d = .slice e) : d = .slice e := by
  cases d <;> simp only [shpOf] at h <;> first | cases h | (split at h <;> cases h)
  rfl
theorem shp_array {d : TypeDesc} {n : Nat} {e : TypeId} (h : shpOf P d = .array n e) : d = .array n e := by
  cases d <;> simp only [shpOf] at h <;> first | cases h | (split at h <;> cases h)
  rfl
theorem shp_bool {d : TypeDesc} (h : shpOf P d = .bool) : d = .bool := by
  cases d <;> simp only [shpOf] at h <;> first | cases h | (split at h <;> cases h)
  rfl
theorem shp_strct' {d : TypeDesc} {fs : List (Nat × TypeId × Nat)} (h : shpOf P d = .strct fs) : ∃ fields, d = .struct fields ∧ fs = fields.toList.map (fun f => (f.offset, f.type, P.cellsOf f.type)) ∧ ∀ f ∈ fields.toList, ∃ i, P.info? f.type = some i := by
  cases d <;> simp only [shpOf] at h <;> try (cases h; done)
  rename_i fields
  split at h
  · rename_i hall
    refine ⟨fields, rfl, ?_, fun f hf => ?_⟩
    · injection h with h
      exact h.symm
    · exact Option.isSome_iff_exists.1 (List.all_eq_true.1 hall f hf)
  · cases h
theorem shp_strct {d : TypeDesc} {fs : List (Nat × TypeId × Nat)} (h : shpOf P d = .strct fs) : ∃ fields, d = .struct fields ∧ fs = fields.toList.map fun f => (f.offset, f.type, P.cellsOf f.type) :=
  let ⟨f, h1, h2, _⟩ := shp_strct' h
  ⟨f, h1, h2⟩
theorem st_bin {op : BinOp} {t t' : TypeId} {x y : Operand} (ho : o.op = .binOp op t x y t') {px py : PV} (h : binE P op t px py = some r) (hok : r.ok) (hx : Rel S μ D w px (ρ x)) (hy : Rel S μ D w py (ρ y))
    (hagg : ∀ xs ys, px = .agg xs → py = .agg ys → aggEqE P op t xs ys = some r → Still P S μ D w ρ o r) : Still P S μ D w ρ o r := by
  unfold binE at h
  split at h
  · rename_i k a k' b
    split at h
    · rename_i hk
      subst hk
      have e1 := rel_int hx; have e2 := rel_int hy
      obtain ⟨v, hv, hr⟩ := int_run (P := P) (S := S) (μ := μ) (D := D) (w := w) h hok t
      refine ⟨v, ?_, hr⟩
      unfold execOp
      simp only [ho, e1, e2, eqGuard_at_int]
      simp [hv]
    · cases h
  · rename_i a b
    have e1 := rel_str hx; have e2 := rel_str hy
    obtain ⟨v, hv, hr⟩ := str_run (P := P) (S := S) (μ := μ) (D := D) (w := w) h hok t
    refine ⟨v, ?_, hr⟩
    unfold execOp
    simp only [ho, e1, e2, eqGuard_at_string]
    simp [hv]
  · rename_i a b
    have e1 := rel_bool hx; have e2 := rel_bool hy
    split at h
    · rename_i ag sz by_ z ht
      obtain ⟨i, d, z', h1, h2, h3, hty⟩ := tyOf_inv ht
      have hd : d = .bool := shp_bool (P := P) (by injection hty with _ _ _ _ h5; exact h5.symm)
      subst hd
      split at h
      · rw [qv_inv h]
        refine ⟨.bool (a == b), ?_, .c (.bool _)⟩
        unfold execOp
        simp only [ho, e1, e2, eqGuard_at_bool]
        simp [run_eql_bool w t a b h2]
      · rw [qv_inv h]
        refine ⟨.bool (!(a == b)), ?_, .c (.bool _)⟩
        unfold execOp
        simp only [ho, e1, e2, eqGuard_at_bool]
        simp [run_neq_bool w t a b h2]
      · cases h
    · cases h
  · rename_i xs ys
    exact hagg xs ys rfl rfl h
  · rename_i tt xs
    split at h
    · rename_i ag sz by_ z e ht
      obtain ⟨i, d, z', h1, h2, h3, hty⟩ := tyOf_inv ht
      have hd := shp_slice (P := P) (d := d) (e := e) (by injection hty with _ _ _ _ h5; exact h5.symm)
      subst hd
      have hcr := rel_sl hx
      have hcr2 := rel_sl hy
      have ey : ∃ c, ρ y = .slice none 0 c := by
        cases hy with
        | c hc =>
          generalize ρ y = v at hc
          cases hc with
          | sl _ _ A c k u ht0 h0 hn hc hm hk hone hcell hrel =>
            have := h0 rfl
            subst this
            exact ⟨c, rfl⟩
        | tok _ _ _ h2 _ _ _ => omega
      obtain ⟨c2, ey⟩ := ey
      have ex : xs ≠ [] → ∃ ad c, ρ x = .slice (some ad) xs.length c := fun hne => by
        generalize ρ x = v at hcr
        cases hcr with
        | sl _ _ A c k u ht0 h0 hn hc hm hk hone hcell hrel =>
          cases A with
          | none => exact absurd (hn rfl).1 hne
          | some ad => exact ⟨ad, c, rfl⟩
      split at h
      · rw [qc_inv h] at hok ⊢
        obtain ⟨ad, c, ex⟩ := ex hok
        refine ⟨.bool false, ?_, .c (.bool _)⟩
        unfold execOp
        simp only [ho, ex, ey, eqGuard_at_slice]
        have := Lib.run_eql_slice_nil w t e (some ad) xs.length c 0 c2 h2
        simp [this]
      · rw [qc_inv h] at hok ⊢
        obtain ⟨ad, c, ex⟩ := ex hok
        refine ⟨.bool true, ?_, .c (.bool _)⟩
        unfold execOp
        simp only [ho, ex, ey, eqGuard_at_slice]
        have he := Lib.run_eql_slice_nil w t e (some ad) xs.length c 0 c2 h2
        have : (binOp .neq t (.slice (some ad) xs.length c) (.slice none 0 c2)).run P w = .ok (.bool true) w := by
          simp only [binOp] at he ⊢
          rw [Sem.run_bind] at he ⊢
          cases hq : (Op.equal t (.slice (some ad) xs.length c) (.slice none 0 c2)).run P w with
          | ok b w1 =>
            rw [hq] at he
            simp only [Result.andThen_ok, Sem.run_pure] at he ⊢
            cases b
            · simp at he ⊢; exact he
            · simp at he
          | _ => rw [hq] at he; cases he
        simp [this]
      · cases h
    · cases h
  · cases h
theorem st_mki {t : TypeId} {x : Operand} (ho : o.op = .makeInterface t x) {px : PV} (h : mkiE P t px = some r) (hx : Rel S μ D w px (ρ x)) : Still P S μ D w ρ o r := by
  unfold mkiE at h
  split at h
  · rename_i ag sz by_ z kk k n ht
    obtain ⟨i, d, z', h1, h2, h3, hty⟩ := tyOf_inv ht
    have hd : d = .int kk := shp_int (P := P) (by injection hty with _ _ _ _ h5; exact h5.symm)
    subst hd
    have e1 := rel_int hx
    rw [qv_inv h]
    refine ⟨.iface t (.int k n), ?_, .c (.lit _)⟩
    unfold execOp
    simp only [ho, e1]
    simp [Instr.makeInterface, underlying, h2]
  · cases h
theorem st_un {op : UnOp} {t : TypeId} {x : Operand} (ho : o.op = .unOp op t x) {px : PV} (h : unaE op px = some r) (hx : Rel S μ D w px (ρ x)) : Still P S μ D w ρ o r := by
  unfold unaE at h
  split at h
  · rename_i b
    have e1 := rel_bool hx
    rw [qv_inv h]
    refine ⟨.bool (!b), ?_, .c (.bool _)⟩
    unfold execOp
    simp only [ho, e1]
    simp [Op.unary]
  · rename_i k n
    have e1 := rel_int hx
    rw [qv_inv h]
    refine ⟨.int k (k.wrap (0 - n)), ?_, .c (.int _ _)⟩
    unfold execOp
    simp only [ho, e1]
    simp [Op.unary, Op.intArith]
  · cases h
/-- The bytes that a slice of bytes reads as. -/
theorem bytes_read {t : Nat} {xs : List (List PV)} {A : Option Addr} {n c : Nat} (h : CRel S w (.sl t xs) (.slice A n c)) (hb : ∀ x ∈ xs, ∃ c, x = byteE c) :
    n = xs.length ∧ ∀ j (hj : j < (xs.map unE).length), ∃ ad, A = some ad ∧ w.cell? (ad.add j) = some (.int .u8 ((xs.map unE)[j].toNat : Int)) := by
  cases h with
  | sl _ _ _ _ k u ht h0 hn hc hm hk hone hcell hrel =>
    refine ⟨rfl, fun j hj => ?_⟩
    have hj' : j < xs.length := by simpa using hj
    obtain ⟨c, hc⟩ := hb xs[j] (List.getElem_mem hj')
    have hx : xs[j]? = some (byteE c) := by rw [List.getElem?_eq_getElem hj', hc]
    have hk1 : k = 1 := by have := hk _ (List.getElem_mem hj'); rw [hc] at this; exact this.symm
    subst hk1
    obtain ⟨ad, e, _, h3⟩ := hcell j 0 _ _ hx rfl
    refine ⟨ad, e, ?_⟩
    have hu := hrel j 0 _ _ hx rfl
    have : u j 0 = .int .u8 (c.toNat : Int) := by
      generalize u j 0 = v at hu
      cases hu
      rfl
    rw [this] at h3
    simpa [hc, unE_byteE] using h3
theorem st_conv {s d : TypeId} {x : Operand} (ho : o.op = .convert s d x) {px : PV} (h : convE P s d px = some r) (hok : r.ok) (hx : Rel S μ D w px (ρ x))
    : Still P S μ D w ρ o r ∧ r.wr = [] ∨ ∃ l e, px = .str l ∧ P.underlying s = some .string ∧ P.underlying d = some (.slice e) ∧ P.underlying e = some (.int .u8) ∧ l.length ≤ maxLen ∧ r.val = .sl 1 (l.map byteE) ∧ r.wr = [] := by
  unfold convE at h
  split at h
  · rename_i ts td hts htd
    obtain ⟨i1, d1, z1, a1, b1, c1, e1⟩ := tyOf_inv hts
    obtain ⟨i2, d2, z2, a2, b2, c2, e2⟩ := tyOf_inv htd
    have es : ts.shp = shpOf P d1 := by rw [e1]
    have ed : td.shp = shpOf P d2 := by rw [e2]
    split at h
    · rename_i k k' n hk
      have hd := shp_int (ed.symm.trans hk)
      subst hd
      have e := rel_int hx
      rw [qv_inv h]
      refine .inl ⟨⟨.int k (k.wrap n), ?_, .c (.int _ _)⟩, rfl⟩
      unfold execOp
      simp only [ho, e]
      simp [convert, run_underlying b1, run_underlying b2, Conv.intToInt]
    · rename_i l hk
      have hd := shp_str (ed.symm.trans hk)
      subst hd
      have e := rel_str hx
      rw [qv_inv h]
      refine .inl ⟨⟨.string ⟨l.toArray⟩, ?_, .c (.str _)⟩, rfl⟩
      unfold execOp
      simp only [ho, e]
      simp [convert, run_underlying b1, run_underlying b2]
    · rename_i k' n hk
      have hd := shp_str (ed.symm.trans hk)
      subst hd
      have e := rel_int hx
      rw [qv_inv h]
      have e2 : (⟨(Utf8.encode n).data.toList.toArray⟩ : ByteArray) = Utf8.encode n := by simp
      refine .inl ⟨⟨.string ⟨(Utf8.encode n).data.toList.toArray⟩, ?_, .c (.str _)⟩, rfl⟩
      rw [e2]
      unfold execOp
      simp only [ho, e]
      simp [convert, run_underlying b1, run_underlying b2, Conv.intToString]
    · rename_i t xs hk
      have hd := shp_str (ed.symm.trans hk)
      subst hd
      split at h
      · rename_i e' hse
        have hs := shp_slice (es.symm.trans hse)
        subst hs
        split at h
        · rename_i ag sz by_ z hte
          obtain ⟨i3, d3, z3, a3, b3, c3, e3⟩ := tyOf_inv hte
          have hd3 : d3 = .int .u8 := shp_int (P := P) (by injection e3 with _ _ _ _ h5; exact h5.symm)
          subst hd3
          rw [qc_inv h] at hok ⊢
          have hb : ∀ x ∈ xs, ∃ c, x = byteE c := hok
          have hcr := rel_sl hx
          obtain ⟨A, c, hv, _, _⟩ := crel_sl hcr
          rw [hv] at hcr
          obtain ⟨_, hcells⟩ := bytes_read hcr hb
          refine .inl ⟨⟨.string ⟨(xs.map unE).toArray⟩, ?_, .c (.str _)⟩, rfl⟩
          unfold execOp
          simp only [ho, hv]
          have hrun : (convert s d (.slice A xs.length c)).run P w = .ok (.string ⟨(xs.map unE).toArray⟩) w := by
            cases A with
            | none =>
              have : xs = [] := by
                cases xs with
                | nil => rfl
                | cons x xs => obtain ⟨ad, h1, _⟩ := hcells 0 (by simp); cases h1
              subst this
              exact Go.Lib.run_convert_nil_bytes w s d e' c b1 b3 b2
            | some ad =>
              have := run_convert_bytes_back w s d e' ad c (xs.map unE) b1 b3 b2 fun j hj => by
                obtain ⟨ad', h1, h2⟩ := hcells j hj
                cases h1
                exact h2
              rwa [List.length_map] at this
          simp [hrun]
        · cases h
      · cases h
    · rename_i e l hk
      have hd := shp_slice (ed.symm.trans hk)
      subst hd
      split at h
      · rename_i hse
        have hs := shp_str (es.symm.trans hse)
        subst hs
        split at h
        · rename_i ag sz by_ z hte
          obtain ⟨i3, d3, z3, a3, b3, c3, e3⟩ := tyOf_inv hte
          have hd3 : d3 = .int .u8 := shp_int (P := P) (by injection e3 with _ _ _ _ h5; exact h5.symm)
          subst hd3
          rw [qc_inv h] at hok ⊢
          have hle : l.length ≤ 9223372036854775807 := hok
          exact .inr ⟨l, e, rfl, b1, b2, b3, by unfold maxLen; omega, rfl, rfl⟩
        · cases h
      · cases h
    · cases h
  · cases h
end
end Go.Proofs.YtgagnohelibaoaaDoor
