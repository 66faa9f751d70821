import Derived.Test.YtgagnohelibaoaaDoorW
/-! Bytes of a text, and append. -/
set_option linter.unusedSimpArgs false
set_option linter.unusedVariables false
namespace Go.Proofs.YtgagnohelibaoaaDoor
open Go.RowKit

section
variable {P : Program} {nt : Nat} {w0 : World} {S0 : Addr → Prop} {E : List (PV × Value)} {S : Addr → Prop} {μ : Nat → Value} {st : St} {a : Act} {w : World} {r : Res} {o : Oper} {nb : Nat}

theorem mv_bytes {s d e : TypeId} {x : Operand} (ho : o.op = .convert s d x) {l : List UInt8} (hs : P.underlying s = some .string) (hd : P.underlying d = some (.slice e)) (he : P.underlying e = some (.int .u8)) (hl : l.length ≤ maxLen)
    (hx : Rel S μ st.D w (.str l) (a.eval x)) (h : Sim nt w0 S0 E S μ st a w) (hr : r.val = .sl 1 (l.map byteE)) (hwr : r.wr = []) : Moves P nt w0 S0 E st a w o nb r := by
  have ev := rel_str hx
  have hsz : (ByteArray.mk l.toArray).size = l.length := by simp [ByteArray.size]
  have hrun := run_bytes_of_string (P := P) w s d e (ByteArray.mk l.toArray) hs hd he
  rw [hsz] at hrun
  have hge := grownCap_ge w l.length 0 e
  have hcm := grownCap_le_maxLen w l.length 0 e hl
  have hb : Below w.heap.size w (w.drew.alloc (.cells (bytesRow (ByteArray.mk l.toArray) (grownCap w l.length 0 e)) e ((bytesRow (ByteArray.mk l.toArray) (grownCap w l.length 0 e)).size, (bytesRow (ByteArray.mk l.toArray) (grownCap w l.length 0 e)).size + 1))) :=
    ((Below.refl w.heap.size w).drew).alloc (Nat.le_refl _) _
  obtain ⟨s1, s2⟩ := h.row hb (cur := bytesRow (ByteArray.mk l.toArray) (grownCap w l.length 0 e)) (e := e) (fr := ((bytesRow (ByteArray.mk l.toArray) (grownCap w l.length 0 e)).size, (bytesRow (ByteArray.mk l.toArray) (grownCap w l.length 0 e)).size + 1)) (by
      show (w.drew.heap.push _)[w.heap.size]? = _
      exact Array.getElem?_push_size) (l.map byteE) 1 (grownCap w l.length 0 e) (by simpa using hge) hcm (fun x hx => by
      obtain ⟨c, _, rfl⟩ := List.mem_map.1 hx
      rfl) (fun i j => .int .u8 ((l.getD i 0).toNat : Int)) (fun _ _ => rfl) (by
      intro i j x p hi hp
      rw [List.getElem?_map] at hi
      cases hc : l[i]? with
      | none => rw [hc] at hi; cases hi
      | some c =>
        rw [hc] at hi
        simp only [Option.map_some, Option.some.injEq] at hi
        subst hi
        have hlt := (List.getElem?_eq_some_iff.1 hc).1
        cases j with
        | succ j => simp [byteE] at hp
        | zero =>
          simp only [byteE, List.getElem?_cons_zero, Option.some.injEq] at hp
          subst hp
          have e1 : l.getD i 0 = c := by simp [List.getD, hc]
          rw [e1]
          refine ⟨?_, .int _ _⟩
          rw [Nat.mul_one, Nat.add_zero, bytesRow_at _ _ _ (by simpa using hlt)]
          simp only [List.getElem?_eq_getElem hlt, Option.some.injEq] at hc
          simp [← hc])
  rw [List.length_map, Nat.mul_one] at s1
  rw [List.length_map, Nat.mul_one] at s2
  refine ⟨_, _, _, _, μ, ?_, .inl rfl, by rw [hwr]; exact s1.more (D' := moreD st.D nb) (fun m hm => .inl hm), by rw [hr]; exact .c s2⟩
  unfold execOp
  simp only [ho, ev]
  simp [hrun]

theorem mv_bytesB {s d e : TypeId} {x : Operand} (ho : o.op = .convert s d x) {l : List UInt8} (hs : P.underlying s = some .string) (hd : P.underlying d = some (.slice e)) (he : P.underlying e = some (.int .u8)) (hl : l.length ≤ maxLen)
    (hx : Rel S μ st.D w (.str l) (a.eval x)) (h : Sim nt w0 S0 E S μ st a w) (hnb : ∀ j, j < 8 → ¬ st.D (nb + j)) (hr : r.val = .bs nb 0 1 l.length l.length) (hwr : r.wr = [(nb, some (.box (l.map fun c => .int .u8 (c.toNat : Int))))]) : Moves P nt w0 S0 E st a w o nb r := by
  have ev := rel_str hx
  have hsz : (ByteArray.mk l.toArray).size = l.length := by simp [ByteArray.size]
  have hrun := run_bytes_of_string (P := P) w s d e (ByteArray.mk l.toArray) hs hd he
  rw [hsz] at hrun
  have hge := grownCap_ge w l.length 0 e
  have hcm := grownCap_le_maxLen w l.length 0 e hl
  have hdr : w.drew.heap.size = w.heap.size := rfl
  have hC : ∀ j, j < l.length → (bytesRow (ByteArray.mk l.toArray) (grownCap w l.length 0 e))[j]? = some (.int .u8 ((l.getD j 0).toNat : Int)) := fun j hj => by
    rw [bytesRow_at _ _ _ (by simpa using hj)]
    simp [List.getD_eq_getElem?_getD, List.getElem?_eq_getElem hj]
  have hbs : l.length ≤ (bytesRow (ByteArray.mk l.toArray) (grownCap w l.length 0 e)).size := by
    rcases Nat.eq_zero_or_pos l.length with h0 | h0
    · omega
    · have := (Array.getElem?_eq_some_iff.1 (hC (l.length - 1) (by omega))).1
      omega
  have s1 := (h.drew).boxF nb (hnb 0 (by omega)) (l.map fun c => .int .u8 (c.toNat : Int)) (bytesRow (ByteArray.mk l.toArray) (grownCap w l.length 0 e)) e ((bytesRow (ByteArray.mk l.toArray) (grownCap w l.length 0 e)).size, (bytesRow (ByteArray.mk l.toArray) (grownCap w l.length 0 e)).size + 1) (fun j hj => by
      simp only [List.length_map] at hj
      have hg : (w.drew.alloc (.cells (bytesRow (ByteArray.mk l.toArray) (grownCap w l.length 0 e)) e ((bytesRow (ByteArray.mk l.toArray) (grownCap w l.length 0 e)).size, (bytesRow (ByteArray.mk l.toArray) (grownCap w l.length 0 e)).size + 1))).heap[w.heap.size]? = some (.cells (bytesRow (ByteArray.mk l.toArray) (grownCap w l.length 0 e)) e ((bytesRow (ByteArray.mk l.toArray) (grownCap w l.length 0 e)).size, (bytesRow (ByteArray.mk l.toArray) (grownCap w l.length 0 e)).size + 1)) := by
        show (w.drew.heap.push _)[w.heap.size]? = _
        exact Array.getElem?_push_size
      simp only [World.frozen?, hdr, hg]
      simp
      omega) (fun i p hp => by
      rw [List.getElem?_map] at hp
      cases hc : l[i]? with
      | none => rw [hc] at hp; cases hp
      | some c =>
        rw [hc] at hp
        simp only [Option.map_some, Option.some.injEq] at hp
        subst hp
        have hlt := (List.getElem?_eq_some_iff.1 hc).1
        refine ⟨_, hC i hlt, ?_⟩
        have e1 : l.getD i 0 = c := by simp [List.getD, hc]
        rw [e1]
        exact .c (.int _ _))
  refine ⟨_, .slice (some ⟨w.heap.size, 0, none⟩) l.length (grownCap w l.length 0 e), _, _, _, ?_, .inl rfl, by rw [hwr]; exact s1.more (D' := moreD st.D nb) (fun m hm => by
    rcases hm with hm | hm
    · exact .inl hm
    · exact .inr ⟨by omega, by omega⟩), ?_⟩
  · unfold execOp
    simp only [ho, ev]
    simp [hrun]
  · rw [hr]
    exact .bs nb 0 1 _ _ w.heap.size 0 _ (.inr ⟨by omega, by omega⟩) (upd_same _ _ _) (fun _ => rfl) (Nat.le_refl _) hge hcm
/-- The cells of a slice in a row. -/
theorem sl_row {t : Nat} {xs : List (List PV)} {A : Option Addr} {n c k : Nat} (h : CRel S w (.sl t xs) (.slice A n c)) (hk : ∀ x ∈ xs, x.length = k) :
    ∃ news : List Value, n = xs.length ∧ (A = none → n = 0 ∧ c = 0) ∧ news.length = n * k ∧ (∀ j u, news[j]? = some u → ∃ ad, A = some ad ∧ S (ad.add j) ∧ w.cell? (ad.add j) = some u) ∧ (∀ u ∈ news, u.oneCell' = true) ∧
      ∀ (i j : Nat) x p, xs[i]? = some x → x[j]? = some p → ∃ u, news[i * k + j]? = some u ∧ CRel S w p u := by
  cases h with
  | sl _ _ _ _ k' u ht h0 hn hc hm hk' hone hcell hrel =>
    have hkk : xs ≠ [] → k' = k := by
      intro hne
      obtain ⟨x, xs', rfl⟩ := List.exists_cons_of_ne_nil hne
      rw [← hk x (by simp), ← hk' x (by simp)]
    refine ⟨(List.range (xs.length * k)).map fun q => u (q / k) (q % k), rfl, fun hA => ?_, by simp, ?_, ?_, ?_⟩
    · obtain ⟨rfl, rfl⟩ := hn hA
      exact ⟨rfl, rfl⟩
    · intro j v hj
      rw [List.getElem?_map] at hj
      have hlt : j < xs.length * k := by
        cases hr : (List.range (xs.length * k))[j]? with
        | none => rw [hr] at hj; cases hj
        | some q => simpa using (List.getElem?_eq_some_iff.1 hr).1
      have hkp : 0 < k := by
        rcases Nat.eq_zero_or_pos k with h | h
        · subst h; omega
        · exact h
      have hi : j / k < xs.length := (Nat.div_lt_iff_lt_mul hkp).2 hlt
      have hxi : xs[j / k]? = some xs[j / k] := List.getElem?_eq_getElem hi
      have hjm : j % k < (xs[j / k]).length := by rw [hk _ (List.getElem_mem hi)]; exact Nat.mod_lt _ hkp
      obtain ⟨ad, h1, h2, h3⟩ := hcell (j / k) (j % k) _ _ hxi (List.getElem?_eq_getElem hjm)
      have hk2 := hkk (by intro e; subst e; simp at hi)
      subst hk2
      have hdm : j / k' * k' + j % k' = j := by rw [Nat.mul_comm]; exact Nat.div_add_mod j k'
      rw [hdm] at h2 h3
      refine ⟨ad, h1, h2, ?_⟩
      rw [List.getElem?_range hlt] at hj
      simp only [Option.map_some, Option.some.injEq] at hj
      rw [h3, ← hj]
    · intro v hv
      obtain ⟨q, _, rfl⟩ := List.mem_map.1 hv
      exact hone _ _
    · intro i j x p hx hp
      have hi := (List.getElem?_eq_some_iff.1 hx).1
      have hj : j < k := by
        have := (List.getElem?_eq_some_iff.1 hp).1
        rw [hk x (List.mem_of_getElem? hx)] at this
        exact this
      have hlt : i * k + j < xs.length * k := by
        have : (i + 1) * k ≤ xs.length * k := Nat.mul_le_mul_right _ hi
        rw [Nat.add_mul] at this
        omega
      refine ⟨u i j, ?_, hrel i j x p hx hp⟩
      rw [List.getElem?_map, List.getElem?_range hlt]
      simp only [Option.map_some, Option.some.injEq]
      have e1 : (i * k + j) / k = i := by
        rw [Nat.mul_comm, Nat.mul_add_div (by omega), Nat.div_eq_of_lt hj, Nat.add_zero]
      have e2 : (i * k + j) % k = j := by
        rw [Nat.mul_comm, Nat.mul_add_mod, Nat.mod_eq_of_lt hj]
      rw [e1, e2]
end
end Go.Proofs.YtgagnohelibaoaaDoor
