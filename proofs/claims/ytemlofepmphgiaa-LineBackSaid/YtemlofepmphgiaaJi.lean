import Derived.Test.YtemlofepmphgiaaJh
import Derived.ArgAppend
import Derived.Lib.ConvBytes
import Derived.Lib.AppendZeros
/-! Print: what is laid behind a text's bytes. -/
set_option linter.unusedSimpArgs false
set_option linter.unusedVariables false
set_option maxHeartbeats 4000000
set_option maxRecDepth 100000
namespace Go.Proofs.Ytemlofepmphgiaa
open Go.RowKit

theorem below_setCells {B g : Nat} (hB : B ≤ g) : ∀ (vs : List Value) (o : Nat) (w : World), Below B w (w.setCells g o vs)
  | [], _, w => Below.refl _ _
  | v :: r, o, w => ((Below.refl B w).setCell (p := ⟨g, o, none⟩) hB v).trans (below_setCells hB r (o + 1) _)
/-- A row of bytes of the call's own, marked behind its end or not. -/
def Laid (w : World) (B : Nat) (v : Value) (l : List UInt8) : Prop :=
  ∃ g cap, v = .slice (some ⟨g, 0, none⟩) l.length cap ∧ B ≤ g ∧ g < w.heap.size ∧ l.length ≤ cap ∧ cap ≤ maxLen ∧ (∀ j u, (bVs l)[j]? = some u → w.cell? ⟨g, j, none⟩ = some u)
def Laid0 (w : World) (B : Nat) (v : Value) (l : List UInt8) : Prop :=
  ∃ g cap, v = .slice (some ⟨g, 0, none⟩) l.length cap ∧ B ≤ g ∧ g < w.heap.size ∧ l.length ≤ cap ∧ cap ≤ maxLen ∧ (∀ j u, (bVs l)[j]? = some u → w.cell? ⟨g, j, none⟩ = some u) ∧ ∀ j, j < cap → (w.cell? ⟨g, j, none⟩).isSome = true ∧ w.frozen? ⟨g, j, none⟩ = false
theorem Laid0.ext {w w' : World} {B : Nat} {v : Value} {l : List UInt8} (h : Laid0 w B v l) (hb : Below w.heap.size w w') : Laid0 w' B v l := by
  obtain ⟨g, cap, h1, h2, h3, h4, h5, h6, h7⟩ := h
  have hh := hb.block g h3
  refine ⟨g, cap, h1, h2, Nat.lt_of_lt_of_le h3 hb.size, h4, h5, fun j u hj => (World.cell?_of_block (w := w) (a := ⟨g, j, none⟩) hh).trans (h6 j u hj), fun j hj => ?_⟩
  rw [World.cell?_of_block (w := w) (w' := w') (a := ⟨g, j, none⟩) hh, World.frozen?_of_block (w := w) (w' := w') (a := ⟨g, j, none⟩) hh]
  exact h7 j hj
theorem conv_laid (w : World) (l : List UInt8) (hl : l.length ≤ maxLen) : Laid0 (Lib.bytesWorld w 5 ⟨l.toArray⟩) w.heap.size (.slice (some ⟨w.heap.size, 0, none⟩) l.length (grownCap w l.length 0 5)) l := by
  have hsz : (⟨l.toArray⟩ : ByteArray).size = l.length := size_byte l
  have hge := grownCap_ge w l.length 0 5
  have hnew := Lib.bytesWorld_at_new w 5 ⟨l.toArray⟩
  have hcs : (Lib.bytesCells w 5 ⟨l.toArray⟩).size = grownCap w l.length 0 5 := by
    rw [Lib.bytesCells, hsz]
    simp
    omega
  refine ⟨w.heap.size, _, rfl, Nat.le_refl _, by rw [Lib.bytesWorld_size]; omega, hge, grownCap_le_maxLen w l.length 0 5 hl, fun j u hj => ?_, fun j hj => ⟨?_, ?_⟩⟩
  · have hj' : j < l.length := by have := (List.getElem?_eq_some_iff.1 hj).1; rwa [bVs_len] at this
    rw [Lib.bytesWorld_cell w 5 ⟨l.toArray⟩ j (by rw [hsz]; exact hj')]
    rw [← hj, bVs_get, List.getElem?_eq_getElem hj']
    simp [bV, hj', List.getD_eq_getElem?_getD]
  · rw [World.cell?, hnew]
    simp [hcs, hj]
  · rw [World.frozen?, hnew]
    simp only [hcs]
    rw [Bool.and_eq_false_iff]
    left
    exact decide_eq_false (by omega)
/-- append onto it. -/
theorem app_laid {w : World} {B : Nat} {v : Value} {l m : List UInt8} (h : Laid0 w B v l) (ad : Addr) (c : Nat) (hm : ∀ j u, (bVs m)[j]? = some u → w.cell? (ad.add j) = some u) (hl : l.length + m.length ≤ 140737488355328) (hB : B ≤ w.heap.size) :
    ∃ v' w', (Builtin.append_ #[22, 22] 22 #[v, .slice (some ad) m.length c]).run Try.prog w = .ok v' w' ∧ Laid w' B v' (l ++ m) ∧ Below B w w' := by
  obtain ⟨g, cap, rfl, h2, h3, h4, h5, h6, h7⟩ := h
  obtain ⟨i, hi, hz, hs, hb⟩ : ∃ i : TypeInfo, Try.prog.info? 5 = some i ∧ i.zero = some (.int .u8 0) ∧ i.size = 1 ∧ i.bytes = 1 := by
    have h : (Try.prog.info? 5).map (fun i => (i.zero, i.size, i.bytes)) = some (some (.int .u8 0), 1, 1) := by kernel_rfl
    cases hi : Try.prog.info? 5 with
    | none => rw [hi] at h; cases h
    | some i =>
      rw [hi] at h
      simp only [Option.map_some, Option.some.injEq, Prod.mk.injEq] at h
      exact ⟨i, rfl, h.1, h.2.1, h.2.2⟩
  have hone : ∀ u ∈ bVs m, u.oneCell' = true := bVs_one m
  by_cases hr : l.length + m.length ≤ cap
  · have hrun := run_append_room_cells (P := Try.prog) w 22 22 5 i Try.underlying22 hi g 0 l.length cap ad m.length c (bVs m) (by rw [bVs_len, hs, Nat.mul_one]) hm hone hr
      (fun j hj => by rw [bVs_len] at hj; rw [hs, Nat.zero_add, Nat.mul_one]; exact (h7 (l.length + j) (by omega)).1)
      (fun j hj => by rw [bVs_len] at hj; rw [hs, Nat.zero_add, Nat.mul_one]; exact (h7 (l.length + j) (by omega)).2)
    rw [hs, Nat.zero_add, Nat.mul_one] at hrun
    have hbl := below_setCells h2 (bVs m) l.length w
    refine ⟨_, _, hrun, ⟨g, cap, by rw [List.length_append], h2, Nat.lt_of_lt_of_le h3 hbl.size, by rw [List.length_append]; exact hr, h5, fun j u hj => ?_⟩, hbl⟩
    rw [bVs_app, List.getElem?_append] at hj
    split at hj
    · rename_i hlt
      rw [World.cell?_setCells_out _ _ _ _ _ (fun _ _ => .inl (by rw [bVs_len] at hlt; exact hlt))]
      exact h6 j u hj
    · rename_i hge
      rw [bVs_len] at hge hj
      have hj2 : j - l.length < (bVs m).length := (List.getElem?_eq_some_iff.1 hj).1
      have := World.cell?_setCells_in g (bVs m) l.length w (fun k hk => (h7 (l.length + k) (by rw [bVs_len] at hk; omega)).1) (j - l.length) hj2
      rw [show l.length + (j - l.length) = j by omega] at this
      rw [this, ← hj, List.getElem?_eq_getElem hj2]
  · obtain ⟨v', w', hrun, r1, r2⟩ := run_append_arg_grows (P := Try.prog) w 22 22 5 i (.int .u8 0) 1 1 Try.underlying22 hi hz hs hb (by rfl) (by omega) ⟨g, 0, none⟩ l.length cap (bVs l) (by rw [bVs_len, Nat.mul_one])
      (fun j u hj => by rw [Addr.add_lit, Nat.zero_add]; exact h6 j u hj) ad m.length c (bVs m) (by rw [bVs_len, Nat.mul_one]) hm (by omega) (by unfold maxLen; omega) (by omega)
    refine ⟨v', w', hrun, ?_, (⟨r2.os, r2.tape, r2.output, r2.size, fun k hk => r2.block k (by omega) (by simp)⟩)⟩
    rcases r1.2 with ⟨rfl, h0⟩ | ⟨g', cap', cur, rfl, q1, q2, q3, q4, q5, q6⟩
    · omega
    · refine ⟨g', cap', by rw [List.length_append], by omega, (Array.getElem?_eq_some_iff.1 q2).1, by rw [List.length_append]; exact q3, q4, fun j u hj => ?_⟩
      rw [bVs_app] at hj
      have := r1.cells (g := g') rfl j u hj
      rwa [Addr.add_lit, Nat.zero_add] at this
theorem laid_rel {S : Addr → Prop} {w : World} {B : Nat} {v : Value} {l : List UInt8} (h : Laid w B v l) : CRel (fun a => S a ∨ ownS v l.length a) w (.sl 1 (l.map byteE)) v := by
  obtain ⟨g, cap, rfl, h2, h3, h4, h5, h6⟩ := h
  have := CRel.sl (S := fun a => S a ∨ ownS (.slice (some ⟨g, 0, none⟩) l.length cap) l.length a) (w := w) 1 (l.map byteE) (some ⟨g, 0, none⟩) cap 1 (fun i _ => bV (l.getD i 0)) (by omega) (fun h => by cases h) (fun h => by cases h) (by rw [List.length_map]; exact h4) h5
    (fun x hx => by obtain ⟨c, _, rfl⟩ := List.mem_map.1 hx; rfl) (fun _ _ => rfl) (fun i j x p hx hp => ?_) (fun i j x p hx hp => ?_)
  · rw [List.length_map] at this
    exact this
  · have hi : i < l.length := by have := (List.getElem?_eq_some_iff.1 hx).1; rwa [List.length_map] at this
    rw [List.getElem?_map, List.getElem?_eq_getElem hi] at hx
    simp only [Option.map_some, Option.some.injEq] at hx
    subst hx
    have hj : j = 0 := by have := (List.getElem?_eq_some_iff.1 hp).1; simp [byteE] at this; exact this
    subst hj
    refine ⟨_, rfl, .inr ?_, ?_⟩
    · rw [Addr.add_lit]
      exact ⟨rfl, rfl, by simp; exact hi⟩
    · rw [Addr.add_lit]
      simp only [Nat.mul_one, Nat.add_zero, Nat.zero_add]
      refine h6 i _ ?_
      rw [bVs_get, List.getElem?_eq_getElem hi, List.getD_eq_getElem?_getD, List.getElem?_eq_getElem hi]
      rfl
  · have hi : i < l.length := by have := (List.getElem?_eq_some_iff.1 hx).1; rwa [List.length_map] at this
    rw [List.getElem?_map, List.getElem?_eq_getElem hi] at hx
    simp only [Option.map_some, Option.some.injEq] at hx
    subst hx
    have hj : j = 0 := by have := (List.getElem?_eq_some_iff.1 hp).1; simp [byteE] at this; exact this
    subst hj
    simp [byteE] at hp
    subst hp
    rw [List.getD_eq_getElem?_getD, List.getElem?_eq_getElem hi]
    exact .int _ _
end Go.Proofs.Ytemlofepmphgiaa
