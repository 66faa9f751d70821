import Derived.Test.YtgagnohelibaoaaDoorR
/-! That a quiet operation in memory comes to what it comes to without: slices, parts put together. -/
set_option linter.unusedSimpArgs false
set_option linter.unusedVariables false
namespace Go.Proofs.YtgagnohelibaoaaDoor
open Go.RowKit

section
variable {P : Program} {S : Addr → Prop} {μ : Nat → Value} {D : Nat → Prop} {w : World} {r : Res} {ρ : Operand → Value} {o : Oper} {p : Operand → PV}

theorem lo_run {b : Bool} {lo : Option Operand} (hb : b = lo.isSome) {rest : List PV} {l : Option Int} {ps : List PV} (h : loE b (lo.toList.map p ++ rest) = some (l, ps)) (hx : ∀ x, Rel S μ D w (p x) (ρ x)) :
    ps = rest ∧ ((lo = none ∧ l = none) ∨ ∃ x k i, lo = some x ∧ l = some i ∧ ρ x = .int k i) := by
  subst hb
  cases lo with
  | none =>
    simp only [loE, Option.isSome_none, Bool.false_eq_true, if_false, Option.toList_none, List.map_nil, List.nil_append, Option.some.injEq, Prod.mk.injEq] at h
    exact ⟨h.2.symm, .inl ⟨rfl, h.1.symm⟩⟩
  | some x =>
    simp only [loE, Option.isSome_some, if_true, Option.toList_some, List.map_cons, List.map_nil, List.singleton_append] at h
    split at h
    · rename_i k i ps' heq
      have hx' := hx x
      simp only [List.cons.injEq] at heq
      rw [heq.1] at hx'
      simp only [Option.some.injEq, Prod.mk.injEq] at h
      exact ⟨by rw [← h.2]; exact heq.2.symm, .inr ⟨x, k, i, rfl, h.1.symm, rel_int hx'⟩⟩
    · cases h
theorem bound_run {x : Value} {k : IntKind} {i : Int} {y : Nat} (hx : x = .int k i) (h0 : 0 ≤ i) (h1 : i ≤ y) (code : BoundsCode) : (Instr.sliceBound x y code).run P w = .ok i.toNat w := by
  subst hx
  have : 0 ≤ i ∧ i ≤ (y : Int) := ⟨h0, h1⟩
  simp [Instr.sliceBound, asIntOf, this]
theorem bounds_run {isS : Bool} {len cap : Nat} (hlc : len ≤ cap) {lo hi : Option Operand} {l h : Option Int} (hl : (lo = none ∧ l = none) ∨ ∃ x k i, lo = some x ∧ l = some i ∧ ρ x = .int k i)
    (hh : (hi = none ∧ h = none) ∨ ∃ x k i, hi = some x ∧ h = some i ∧ ρ x = .int k i) (b0 : 0 ≤ l.getD 0) (b1 : l.getD 0 ≤ h.getD len) (b2 : h.getD len ≤ len) :
    (Instr.sliceBounds isS len cap (lo.map ρ) (hi.map ρ) none).run P w = .ok ((l.getD 0).toNat, (h.getD len).toNat, cap) w := by
  unfold Instr.sliceBounds
  have e1 : ∀ m, (match hi.map ρ, (none : Option Value) with
    | some v, some _ => Instr.sliceBound v m .slice3B
    | some v, none => Instr.sliceBound v cap (if isS then .sliceAcap else .sliceAlen)
    | none, none => pure len
    | none, some _ => stuck "Slice: max without high").run P w = .ok (h.getD len).toNat w := by
    intro m
    rcases hh with ⟨rfl, rfl⟩ | ⟨x, k, i, rfl, rfl, hx⟩
    · simp
    · simp only [Option.map_some, Option.getD_some] at *
      exact bound_run hx (by omega) (by omega) _
  rcases hl with ⟨rfl, rfl⟩ | ⟨x, k, i, rfl, rfl, hx⟩
  · rcases hh with ⟨rfl, rfl⟩ | ⟨y, k', j, rfl, rfl, hy⟩
    · simp
    · simp only [Option.map_some, Option.getD_some, Option.map_none, Option.getD_none] at *
      have := fun c => bound_run (P := P) (w := w) hy b1 (show j ≤ (cap : Int) by omega) c
      simp [this]
  · rcases hh with ⟨rfl, rfl⟩ | ⟨y, k', j, rfl, rfl, hy⟩
    · simp only [Option.map_some, Option.getD_some, Option.map_none, Option.getD_none] at *
      have := fun c => bound_run (P := P) (w := w) hx b0 b1 c
      simp [this]
    · simp only [Option.map_some, Option.getD_some, Option.map_none, Option.getD_none] at *
      have h2 := fun c => bound_run (P := P) (w := w) hy (show 0 ≤ j by omega) (show j ≤ (cap : Int) by omega) c
      have h3 := fun c => bound_run (P := P) (w := w) (y := j.toNat) hx b0 (show i ≤ (j.toNat : Int) by omega) c
      simp [h2, h3]
theorem st_sliceO {t : TypeId} {x : Operand} {lo hi mx : Option Operand} (ho : o.op = .slice t x lo hi mx) (h : sliceO P t lo.isSome hi.isSome mx.isSome (p x) ((lo.toList ++ (hi.toList ++ mx.toList)).map p) = some r) (hok : r.ok)
    (hx : ∀ x, Rel S μ D w (p x) (ρ x)) : Still P S μ D w ρ o r := by
  rw [List.map_append, List.map_append] at h
  unfold sliceO at h
  cases mx with
  | some m => simp at h
  | none =>
    simp only [Option.isSome_none, Bool.false_eq_true, if_false] at h
    cases hl : loE lo.isSome (lo.toList.map p ++ (hi.toList.map p ++ (none : Option Operand).toList.map p)) with
    | none => rw [hl] at h; cases h
    | some lp =>
      obtain ⟨l, ps⟩ := lp
      rw [hl] at h
      obtain ⟨rfl, hlo⟩ := lo_run rfl hl hx
      simp only at h
      cases hh : loE hi.isSome (hi.toList.map p ++ (none : Option Operand).toList.map p) with
      | none => rw [hh] at h; cases h
      | some hp =>
        obtain ⟨hb, ps'⟩ := hp
        rw [hh] at h
        obtain ⟨rfl, hhi⟩ := lo_run rfl hh hx
        simp only at h
        split at h
        · rename_i s ag sz by_ z hpx ht
          obtain ⟨i, d, z', h1, h2, h3, hty⟩ := tyOf_inv ht
          have hd := shp_str (P := P) (d := d) (by injection hty with _ _ _ _ h5; exact h5.symm)
          subst hd
          rw [qc_inv h] at hok ⊢
          obtain ⟨⟨b0, b1⟩, b2⟩ := hok
          have hx' := hx x
          rw [hpx] at hx'
          have e := rel_str hx'
          have hsz : (ByteArray.mk s.toArray).size = s.length := by simp [ByteArray.size]
          refine ⟨.string ⟨((s.take (hb.getD s.length).toNat).drop (l.getD 0).toNat).toArray⟩, ?_, .c (.str _)⟩
          have hex : (ByteArray.mk s.toArray).extract (l.getD 0).toNat (hb.getD s.length).toNat = ⟨((s.take (hb.getD s.length).toNat).drop (l.getD 0).toNat).toArray⟩ := by
            apply ByteArray.ext
            rw [ByteArray.data_extract]
            apply Array.ext'
            simp [List.extract_eq_take_drop, List.drop_take]
          unfold execOp
          simp only [ho, e]
          simp [Instr.sliceAt, run_underlying h2, Instr.slice, hsz, bounds_run (Nat.le_refl _) hlo hhi b0 b1 b2, hex]
        · rename_i t' xs ag sz by_ z e hpx ht
          obtain ⟨i, d, z', h1, h2, h3, hty⟩ := tyOf_inv ht
          have hd := shp_slice (P := P) (d := d) (e := e) (by injection hty with _ _ _ _ h5; exact h5.symm)
          subst hd
          split at h
          · rename_i te hte
            obtain ⟨i2, d2, z2, a2, b2', c2, e2⟩ := tyOf_inv hte
            rw [qc_inv h] at hok ⊢
            obtain ⟨⟨b0, b1⟩, b2, hw⟩ := hok
            have hx' := hx x
            rw [hpx] at hx'
            have hcr := rel_sl hx'
            have hsz : te.size = i2.size := by rw [e2]
            generalize hv : ρ x = v at hcr
            cases hcr with
            | sl _ _ A c k u ht' h0 hn hc hm hk hone hcell hrel =>
              have hbr := bounds_run (P := P) (w := w) (isS := true) hc hlo hhi b0 b1 b2
              have hlen : ((xs.take (hb.getD xs.length).toNat).drop (l.getD 0).toNat).length = (hb.getD xs.length).toNat - (l.getD 0).toNat := by
                simp only [List.length_drop, List.length_take]
                omega
              refine ⟨.slice (if c = (l.getD 0).toNat then A else A.map (·.add ((l.getD 0).toNat * i2.size))) ((hb.getD xs.length).toNat - (l.getD 0).toNat) (c - (l.getD 0).toNat), ?_, .c ?_⟩
              · unfold execOp
                simp only [ho, hv]
                simp [Instr.sliceAt, run_underlying h2, Instr.slice, hbr, sizeOf_run a2]
              · rw [← hlen]
                have hget : ∀ (i' : Nat) x', ((xs.take (hb.getD xs.length).toNat).drop (l.getD 0).toNat)[i']? = some x' → xs[(l.getD 0).toNat + i']? = some x' ∧ (l.getD 0).toNat < c := by
                  intro i' x' hi'
                  rw [List.getElem?_drop, List.getElem?_take] at hi'
                  split at hi'
                  · refine ⟨hi', ?_⟩
                    have := (List.getElem?_eq_some_iff.1 hi').1
                    omega
                  · cases hi'
                refine .sl 1 _ _ _ k (fun i' j => u ((l.getD 0).toNat + i') j) (by omega) (fun h => by omega) ?_ (by rw [hlen]; omega) (by omega) ?_ (fun i' j => hone _ _) ?_ ?_
                · intro hA
                  have hAn : A = none := by
                    split at hA
                    · exact hA
                    · cases A with
                      | none => rfl
                      | some ad => cases hA
                  obtain ⟨hx0, hc0⟩ := hn hAn
                  subst hx0
                  exact ⟨by simp, by omega⟩
                · intro x' hx'
                  obtain ⟨i', hi'⟩ := List.getElem?_of_mem hx'
                  exact hk x' (List.mem_of_getElem? (hget i' x' hi').1)
                · intro i' j x' q hi' hq
                  obtain ⟨hg, hlt⟩ := hget i' x' hi'
                  obtain ⟨ad, hA, hS, hcl⟩ := hcell _ j x' q hg hq
                  subst hA
                  rw [if_neg (by omega)]
                  refine ⟨_, rfl, ?_⟩
                  have hkk : (l.getD 0).toNat * i2.size = (l.getD 0).toNat * k := by
                    rcases hlo with ⟨_, rfl⟩ | ⟨y, ky, iy, rfl, rfl, _⟩
                    · simp
                    · have h5 := hw rfl x' (List.mem_of_getElem? hg)
                      have h6 := hk x' (List.mem_of_getElem? hg)
                      rw [← h6, h5, hsz]
                  rw [Addr.add_add, hkk, show (l.getD 0).toNat * k + (i' * k + j) = ((l.getD 0).toNat + i') * k + j by rw [Nat.add_mul]; omega]
                  exact ⟨hS, hcl⟩
                · intro i' j x' q hi' hq
                  exact hrel _ j x' q (hget i' x' hi').1 hq
          · cases h
        · cases h
theorem bounds_runB {n m cap : Nat} (hnm : n ≤ m) (hmc : m ≤ cap) {lo hi mx : Option Operand} {l h y : Option Int} (hl : (lo = none ∧ l = none) ∨ ∃ x k i, lo = some x ∧ l = some i ∧ ρ x = .int k i)
    (hh : (hi = none ∧ h = none) ∨ ∃ x k i, hi = some x ∧ h = some i ∧ ρ x = .int k i) (hy : (mx = none ∧ y = none) ∨ ∃ x k i, mx = some x ∧ y = some i ∧ ρ x = .int k i) (hmh : ¬ (mx.isSome = true ∧ hi.isSome = false)) (b0 : 0 ≤ l.getD 0) (b1 : l.getD 0 ≤ h.getD n) (b2 : h.getD n ≤ y.getD m) (b3 : y.getD m ≤ m) :
    (Instr.sliceBounds true n cap (lo.map ρ) (hi.map ρ) (mx.map ρ)).run P w = .ok ((l.getD 0).toNat, (h.getD n).toNat, y.elim cap Int.toNat) w := by
  unfold Instr.sliceBounds
  rcases hy with ⟨rfl, rfl⟩ | ⟨xy, ky, iy, rfl, rfl, hxy⟩
  · simp only [Option.getD_none] at b2
    rcases hl with ⟨rfl, rfl⟩ | ⟨x, k, i, rfl, rfl, hx⟩
    · rcases hh with ⟨rfl, rfl⟩ | ⟨y, k', j, rfl, rfl, hy⟩
      · simp
      · have b2' : j ≤ (m : Int) := b2
        simp only [Option.map_some, Option.getD_some, Option.map_none, Option.getD_none] at *
        have := fun c => bound_run (P := P) (w := w) hy b1 (show j ≤ (cap : Int) by omega) c
        simp [this]
    · rcases hh with ⟨rfl, rfl⟩ | ⟨y, k', j, rfl, rfl, hy⟩
      · simp only [Option.map_some, Option.getD_some, Option.map_none, Option.getD_none] at *
        have := fun c => bound_run (P := P) (w := w) hx b0 b1 c
        simp [this]
      · have b2' : j ≤ (m : Int) := b2
        simp only [Option.map_some, Option.getD_some, Option.map_none, Option.getD_none] at *
        have h2 := fun c => bound_run (P := P) (w := w) hy (show 0 ≤ j by omega) (show j ≤ (cap : Int) by omega) c
        have h3 := fun c => bound_run (P := P) (w := w) (y := j.toNat) hx b0 (show i ≤ (j.toNat : Int) by omega) c
        simp [h2, h3]
  · simp only [Option.getD_some] at b2 b3
    rcases hh with ⟨rfl, rfl⟩ | ⟨y, k', j, rfl, rfl, hy⟩
    · exact absurd ⟨rfl, rfl⟩ hmh
    · simp only [Option.getD_some] at b1 b2
      have h1 := fun c => bound_run (P := P) (w := w) hxy (show 0 ≤ iy by omega) (show iy ≤ (cap : Int) by omega) c
      have h2 := fun c => bound_run (P := P) (w := w) (y := iy.toNat) hy (show 0 ≤ j by omega) (show j ≤ (iy.toNat : Int) by omega) c
      rcases hl with ⟨rfl, rfl⟩ | ⟨x, k, i, rfl, rfl, hx⟩
      · simp [h1, h2]
      · simp only [Option.getD_some] at b0 b1
        have h3 := fun c => bound_run (P := P) (w := w) (y := j.toNat) hx b0 (show i ≤ (j.toNat : Int) by omega) c
        simp [h1, h2, h3]
theorem st_sliceB {t : TypeId} {x : Operand} {lo hi mx : Option Operand} (ho : o.op = .slice t x lo hi mx) {nm off k n m : Nat} (h : sliceB P t lo.isSome hi.isSome mx.isSome nm off k n m ((lo.toList ++ (hi.toList ++ mx.toList)).map p) = some r) (hok : r.ok)
    (hx : ∀ x, Rel S μ D w (p x) (ρ x)) (hpx : p x = .bs nm off k n m) : Still P S μ D w ρ o r := by
  rw [List.map_append, List.map_append] at h
  unfold sliceB at h
  cases hl : loE lo.isSome (lo.toList.map p ++ (hi.toList.map p ++ mx.toList.map p)) with
  | none => rw [hl] at h; cases h
  | some lp =>
    obtain ⟨l, ps⟩ := lp
    rw [hl] at h
    obtain ⟨rfl, hlo⟩ := lo_run rfl hl hx
    simp only at h
    cases hh : loE hi.isSome (hi.toList.map p ++ mx.toList.map p) with
    | none => rw [hh] at h; cases h
    | some hp =>
      obtain ⟨hb, ps'⟩ := hp
      rw [hh] at h
      obtain ⟨rfl, hhi⟩ := lo_run rfl hh hx
      simp only at h
      have hmm : loE mx.isSome (mx.toList.map p) = loE mx.isSome (mx.toList.map p ++ []) := by rw [List.append_nil]
      cases hm : loE mx.isSome (mx.toList.map p) with
      | none => rw [hm] at h; cases h
      | some mp =>
        obtain ⟨mb, ps''⟩ := mp
        rw [hm] at h
        rw [hmm] at hm
        obtain ⟨rfl, hmx⟩ := lo_run rfl hm hx
        simp only at h
        split at h
        · rename_i ag sz by_ z e ht
          obtain ⟨i, d, z', h1, h2, h3, hty⟩ := tyOf_inv ht
          have hd := shp_slice (P := P) (d := d) (e := e) (by injection hty with _ _ _ _ h5; exact h5.symm)
          subst hd
          split at h
          · rename_i te hte
            obtain ⟨i2, d2, z2, a2, b2', c2, e2⟩ := tyOf_inv hte
            split at h
            · cases h
            rename_i hmh
            rw [qc_inv h] at hok ⊢
            obtain ⟨⟨⟨b0, b1⟩, b2⟩, b3, hk⟩ := hok
            have hsz : te.size = i2.size := by rw [e2]
            have hx' := hx x
            rw [hpx] at hx'
            obtain ⟨g, oo, c, hv, hD, hg, hoo, hnm, hmc, hcm⟩ := rel_bs hx'
            have hbr := bounds_runB (P := P) (w := w) (cap := c) hnm hmc hlo hhi hmx hmh b0 b1 b2 b3
            have hM : ∀ M : Nat, mb.elim c Int.toNat = M → ((mb.getD m).toNat ≤ M ∧ M ≤ c) := fun M hM => by
              subst hM
              cases mb with
              | none => simp only [Option.elim_none, Option.getD_none]; omega
              | some Y => simp only [Option.getD_some, Option.elim_some] at b3 ⊢; omega
            generalize mb.elim c Int.toNat = M at hbr hM
            obtain ⟨hM1, hM2⟩ := hM M rfl
            refine ⟨.slice (if M = (l.getD 0).toNat then some ⟨g, oo, none⟩ else (some ⟨g, oo, none⟩ : Option Addr).map (·.add ((l.getD 0).toNat * i2.size))) ((hb.getD n).toNat - (l.getD 0).toNat) (M - (l.getD 0).toNat), ?_, ?_⟩
            · unfold execOp
              simp only [ho, hv]
              simp [Instr.sliceAt, run_underlying h2, Instr.slice, hbr, sizeOf_run a2]
            · have key : ∃ o', (if M = (l.getD 0).toNat then some ⟨g, oo, none⟩ else (some ⟨g, oo, none⟩ : Option Addr).map (·.add ((l.getD 0).toNat * i2.size))) = some ⟨g, o', none⟩ ∧ (0 < (mb.getD m).toNat - (l.getD 0).toNat → o' = off + (l.getD 0).toNat * k) := by
                split
                · exact ⟨oo, rfl, fun hlt => by omega⟩
                · refine ⟨oo + (l.getD 0).toNat * i2.size, by simp [Addr.add_lit], fun hlt => ?_⟩
                  have hmp : 0 < m := by omega
                  rw [hoo hmp, hk, hsz]
              obtain ⟨o', ek, hk'⟩ := key
              rw [ek]
              exact .bs nm _ k _ _ g o' _ hD hg hk' (by omega) (by omega) (by omega)
          · cases h
        · cases h
theorem st_sliceA {t : TypeId} {x : Operand} {lo hi mx : Option Operand} (ho : o.op = .slice t x lo hi mx) {nm off : Nat} (h : sliceA P t lo.isSome hi.isSome mx.isSome nm off ((lo.toList ++ (hi.toList ++ mx.toList)).map p) = some r) (hok : r.ok)
    (hx : ∀ x, Rel S μ D w (p x) (ρ x)) (hpx : p x = .ptr nm off) : Still P S μ D w ρ o r := by
  rw [List.map_append, List.map_append] at h
  unfold sliceA at h
  cases mx with
  | some mv => simp at h
  | none =>
  simp only [Option.isSome_none, Bool.false_eq_true, if_false] at h
  cases hl : loE lo.isSome (lo.toList.map p ++ (hi.toList.map p ++ (none : Option Operand).toList.map p)) with
  | none => rw [hl] at h; cases h
  | some lp =>
    obtain ⟨l, ps⟩ := lp
    rw [hl] at h
    obtain ⟨rfl, hlo⟩ := lo_run rfl hl hx
    simp only at h
    cases hh : loE hi.isSome (hi.toList.map p ++ (none : Option Operand).toList.map p) with
    | none => rw [hh] at h; cases h
    | some hp =>
      obtain ⟨hb, ps'⟩ := hp
      rw [hh] at h
      obtain ⟨rfl, hhi⟩ := lo_run rfl hh hx
      simp only at h
      split at h
      · rename_i ag sz by_ z a ht
        obtain ⟨i, d, z', h1, h2, h3, hty⟩ := tyOf_inv ht
        have hd : d = .pointer a := by
          have h5 : shpOf P d = .ptr a := by injection hty with _ _ _ _ h5; exact h5.symm
          cases d <;> simp only [shpOf] at h5 <;> first | (injection h5 with h6; rw [h6]; done) | cases h5 | (split at h5 <;> cases h5)
        subst hd
        split at h
        · rename_i ag' sz' by' z' n e hta
          obtain ⟨i', d', z'', h1', h2', h3', hty'⟩ := tyOf_inv hta
          have hd := shp_array (P := P) (d := d') (n := n) (e := e) (by injection hty' with _ _ _ _ h5; exact h5.symm)
          subst hd
          split at h
          · rename_i te hte
            obtain ⟨i2, d2, z2, a2, b2', c2, e2⟩ := tyOf_inv hte
            rw [qc_inv h] at hok ⊢
            obtain ⟨⟨⟨b0, b1⟩, b2⟩, b3⟩ := hok
            have hsz : te.size = i2.size := by rw [e2]
            have hx' := hx x
            rw [hpx] at hx'
            obtain ⟨g, hv, hD, hg⟩ := rel_ptr hx'
            have hbr := bounds_run (P := P) (w := w) (isS := false) (Nat.le_refl n) hlo hhi b0 b1 b2
            refine ⟨.slice (some (if n = (l.getD 0).toNat then ⟨g, off, none⟩ else (⟨g, off, none⟩ : Addr).add ((l.getD 0).toNat * i2.size))) ((hb.getD n).toNat - (l.getD 0).toNat) (n - (l.getD 0).toNat), ?_, ?_⟩
            · unfold execOp
              simp only [ho, hv]
              simp [Instr.sliceAt, run_underlying h2, run_underlying h2', Instr.slice, asAddr, hbr, sizeOf_run a2]
            · have key : ∃ o', (if n = (l.getD 0).toNat then ⟨g, off, none⟩ else (⟨g, off, none⟩ : Addr).add ((l.getD 0).toNat * i2.size)) = ⟨g, o', none⟩ ∧ (0 < n - (l.getD 0).toNat → o' = off + (l.getD 0).toNat * te.size) := by
                split
                · exact ⟨off, rfl, fun hlt => by omega⟩
                · exact ⟨off + (l.getD 0).toNat * i2.size, by simp [Addr.add_lit], fun hlt => by rw [hsz]⟩
              obtain ⟨o', ek, hk'⟩ := key
              rw [ek]
              exact .bs nm _ _ _ _ g o' _ hD hg hk' (by omega) (Nat.le_refl _) (by unfold maxLen; omega)
          · cases h
        · cases h
      · rename_i ag' sz by' z' n e hta
        obtain ⟨i', d', z'', h1', h2', h3', hty'⟩ := tyOf_inv hta
        have hd := shp_array (P := P) (d := d') (n := n) (e := e) (by injection hty' with _ _ _ _ h5; exact h5.symm)
        subst hd
        split at h
        · rename_i te hte
          obtain ⟨i2, d2, z2, a2, b2', c2, e2⟩ := tyOf_inv hte
          rw [qc_inv h] at hok ⊢
          obtain ⟨⟨⟨b0, b1⟩, b2⟩, b3⟩ := hok
          have hsz : te.size = i2.size := by rw [e2]
          have hx' := hx x
          rw [hpx] at hx'
          obtain ⟨g, hv, hD, hg⟩ := rel_ptr hx'
          have hbr := bounds_run (P := P) (w := w) (isS := false) (Nat.le_refl n) hlo hhi b0 b1 b2
          refine ⟨.slice (some (if n = (l.getD 0).toNat then ⟨g, off, none⟩ else (⟨g, off, none⟩ : Addr).add ((l.getD 0).toNat * i2.size))) ((hb.getD n).toNat - (l.getD 0).toNat) (n - (l.getD 0).toNat), ?_, ?_⟩
          · unfold execOp
            simp only [ho, hv]
            simp [Instr.sliceAt, run_underlying h2', Instr.sureAddr, hbr, sizeOf_run a2]
          · have key : ∃ o', (if n = (l.getD 0).toNat then ⟨g, off, none⟩ else (⟨g, off, none⟩ : Addr).add ((l.getD 0).toNat * i2.size)) = ⟨g, o', none⟩ ∧ (0 < n - (l.getD 0).toNat → o' = off + (l.getD 0).toNat * te.size) := by
              split
              · exact ⟨off, rfl, fun hlt => by omega⟩
              · exact ⟨off + (l.getD 0).toNat * i2.size, by simp [Addr.add_lit], fun hlt => by rw [hsz]⟩
            obtain ⟨o', ek, hk'⟩ := key
            rw [ek]
            exact .bs nm _ _ _ _ g o' _ hD hg hk' (by omega) (Nat.le_refl _) (by unfold maxLen; omega)
        · cases h
      · cases h
theorem st_slice {t : TypeId} {x : Operand} {lo hi mx : Option Operand} (ho : o.op = .slice t x lo hi mx) (h : sliceE P t lo.isSome hi.isSome mx.isSome ((x :: (lo.toList ++ (hi.toList ++ mx.toList))).map p) = some r) (hok : r.ok)
    (hx : ∀ x, Rel S μ D w (p x) (ρ x)) : Still P S μ D w ρ o r := by
  rw [List.map_cons] at h
  cases hp : p x with
  | bs nm off k n m => rw [hp] at h; exact st_sliceB ho h hok hx hp
  | ptr nm off => rw [hp] at h; exact st_sliceA ho h hok hx hp
  | _ => rw [hp] at h; exact st_sliceO ho (by rw [hp]; exact h) hok hx
theorem st_makeFunc {fn : Fn} {a b : Array Operand} (ho : o.op = .makeFunc fn a b) (h : qv (.clo fn (((a.toList ++ b.toList).map p).take a.size) (((a.toList ++ b.toList).map p).drop a.size)) = some r) (hx : ∀ x, Rel S μ D w (p x) (ρ x)) : Still P S μ D w ρ o r := by
  rw [qv_inv h]
  have e1 : ((a.toList ++ b.toList).map p).take a.size = a.toList.map p := by
    rw [List.map_append, List.take_left' (by simp)]
  have e2 : ((a.toList ++ b.toList).map p).drop a.size = b.toList.map p := by
    rw [List.map_append, List.drop_left' (by simp)]
  rw [e1, e2]
  have g : ∀ (c : Array Operand) (i : Nat) q, (c.toList.map p)[i]? = some q → Rel S μ D w q ((c.map ρ).getD i undef) := by
    intro c i q hi
    rw [List.getElem?_map, Array.getElem?_toList] at hi
    cases hc : c[i]? with
    | none => rw [hc] at hi; cases hi
    | some x =>
      rw [hc] at hi
      simp only [Option.map_some, Option.some.injEq] at hi
      subst hi
      have : (c.map ρ).getD i undef = ρ x := by simp [Array.getD_eq_getD_getElem?, hc]
      rw [this]
      exact hx x
  refine ⟨.func fn (a.map ρ) (b.map ρ), ?_, .clo _ _ _ _ _ (by simp) (by simp) (g a) (g b)⟩
  unfold execOp
  simp only [ho]
  simp [Instr.makeFunc]

theorem setL_len : ∀ (xs cs : List PV) (off : Nat), (setL cs off xs).length = cs.length
  | [], _, _ => rfl
  | x :: xs, cs, off => by unfold setL; rw [setL_len xs]; simp
theorem setL_get : ∀ (xs cs : List PV) (off : Nat), off + xs.length ≤ cs.length → ∀ i, (setL cs off xs)[i]? = if off ≤ i ∧ i < off + xs.length then xs[i - off]? else cs[i]?
  | [], cs, off, h, i => by unfold setL; rw [if_neg (by simp)]
  | x :: xs, cs, off, h, i => by
    unfold setL
    simp only [List.length_cons] at h
    rw [setL_get xs _ _ (by simp; omega)]
    by_cases h1 : off + 1 ≤ i ∧ i < off + 1 + xs.length
    · rw [if_pos h1, if_pos (by simp only [List.length_cons]; omega)]
      rw [show i - off = (i - (off + 1)) + 1 by omega, List.getElem?_cons_succ]
    · rw [if_neg h1]
      by_cases h2 : i = off
      · subst h2
        rw [if_pos (by simp only [List.length_cons]; omega), Nat.sub_self, List.getElem?_set_self (by omega)]
        rfl
      · rw [if_neg (by simp only [List.length_cons]; omega), List.getElem?_set_ne (Ne.symm h2)]

/-- A part as the machine puts it. -/
def putV (cells : Array Value) (off : Nat) (v : Value) : Array Value := v.cells.zipIdx.foldl (fun cs (c, j) => cs.setIfInBounds (off + j) c) cells
theorem putV_list (off : Nat) : ∀ (l : List Value) (k : Nat) (cells : Array Value), ((l.zipIdx k).foldl (fun cs (c, j) => cs.setIfInBounds (off + j) c) cells).size = cells.size ∧
    ∀ i, i < cells.size → ((l.zipIdx k).foldl (fun cs (c, j) => cs.setIfInBounds (off + j) c) cells).getD i undef = if off + k ≤ i ∧ i < off + k + l.length then l.getD (i - (off + k)) undef else cells.getD i undef
  | [], k, cells => ⟨rfl, fun i hi => by rw [if_neg (by simp)]; rfl⟩
  | v :: l, k, cells => by
    simp only [List.zipIdx_cons, List.foldl_cons]
    obtain ⟨h1, h2⟩ := putV_list off l (k + 1) (cells.setIfInBounds (off + k) v)
    refine ⟨by rw [h1]; simp, fun i hi => ?_⟩
    rw [h2 i (by simpa using hi)]
    by_cases h3 : off + (k + 1) ≤ i ∧ i < off + (k + 1) + l.length
    · rw [if_pos h3, if_pos (by simp only [List.length_cons]; omega), show i - (off + k) = (i - (off + (k + 1))) + 1 by omega]
      rfl
    · rw [if_neg h3]
      by_cases h4 : i = off + k
      · subst h4
        rw [if_pos (by simp only [List.length_cons]; omega), Nat.sub_self]
        simp [hi]
      · rw [if_neg (by simp only [List.length_cons]; omega)]
        simp only [Array.getD_eq_getD_getElem?, Array.getElem?_setIfInBounds_ne (Ne.symm h4)]
theorem putV_get (cells : Array Value) (off : Nat) (v : Value) : (putV cells off v).size = cells.size ∧
    ∀ i, i < cells.size → (putV cells off v).getD i undef = if off ≤ i ∧ i < off + v.cells.size then v.cells.getD (i - off) undef else cells.getD i undef := by
  unfold putV
  obtain ⟨cs⟩ : ∃ cs, v.cells = cs := ⟨_, rfl⟩
  rw [show v.cells.zipIdx.foldl (fun cs (c, j) => cs.setIfInBounds (off + j) c) cells = (v.cells.toList.zipIdx 0).foldl (fun cs (c, j) => cs.setIfInBounds (off + j) c) cells by
    rw [← Array.foldl_toList, Array.toList_zipIdx]]
  obtain ⟨h1, h2⟩ := putV_list off v.cells.toList 0 cells
  refine ⟨h1, fun i hi => ?_⟩
  rw [h2 i hi]
  simp only [Nat.add_zero, Array.length_toList]
  split
  · simp [List.getD, Array.getD_eq_getD_getElem?]
  · rfl
/-- The cells of a value, one by one. -/
theorem rel_cells {q : PV} {v : Value} (h : Rel S μ D w q v) (hq : q.one = true ∨ ∃ cs, q = .agg cs) : v.cells.size = q.cells.length ∧ ∀ (i : Nat) q', q.cells[i]? = some q' → Rel S μ D w q' (v.cells.getD i undef) := by
  have one : v.cells = #[v] → q.cells = [q] → v.cells.size = q.cells.length ∧ ∀ (i : Nat) q', q.cells[i]? = some q' → Rel S μ D w q' (v.cells.getD i undef) := by
    intro e1 e2
    rw [e1, e2]
    refine ⟨rfl, fun i q' hi => ?_⟩
    cases i with
    | zero => simp at hi; subst hi; exact h
    | succ i => simp at hi
  cases q with
  | undef => rcases hq with h | ⟨cs, h⟩ <;> cases h
  | tup cs => rcases hq with h | ⟨cs, h⟩ <;> cases h
  | lit x =>
    have e := rel_lit h
    subst e
    refine one ?_ rfl
    rcases hq with h | ⟨cs, h⟩
    · cases v <;> first | rfl | cases h
    · cases h
  | agg cs =>
    obtain ⟨arr, rfl, hs, hr⟩ := rel_agg h
    exact ⟨hs, hr⟩
  | bool b => have e := rel_bool h; subst e; exact one rfl rfl
  | int k n => have e := rel_int h; subst e; exact one rfl rfl
  | str l => have e := rel_str h; subst e; exact one rfl rfl
  | sl t xs => obtain ⟨A, c, e, _⟩ := crel_sl (rel_sl h); subst e; exact one rfl rfl
  | ptr nm off => obtain ⟨g, e, _⟩ := rel_ptr h; subst e; exact one rfl rfl
  | bs nm off k n m => obtain ⟨g, oo, c, e, _⟩ := rel_bs h; subst e; exact one rfl rfl
  | mp nm => obtain ⟨g, e, _⟩ := rel_mp h; subst e; exact one rfl rfl
  | iptr cs => obtain ⟨ad, u, e, _⟩ := rel_iptr h; subst e; exact one rfl rfl
  | clo f a b => obtain ⟨fs, cs, e, _⟩ := rel_clo h; subst e; exact one rfl rfl
end
end Go.Proofs.YtgagnohelibaoaaDoor
