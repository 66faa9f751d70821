import Derived.Test.YtgagnohelibaoaaDoorKc
import Derived.Maps.RangeWalk
import Derived.Test.YtgagnohelibaoaaDoorLb
/-! A range over a map, at the operations; all verbs. -/
set_option linter.unusedSimpArgs false
set_option linter.unusedVariables false
set_option maxHeartbeats 4000000
set_option maxRecDepth 100000
namespace Go.Proofs.YtgagnohelibaoaaDoor
open Go.RowKit Go.Lib Go.Sort Go.Shelf
open Go.ChangeMaps (setBlock)

section
variable {P : Program} {w : World} {ops : Array Oper} {rest : List Oper} {o : Oper} {a : Act} {Q : Exit → Act → World → Prop}
theorem wpList_range_at (hg : o.guard = none) (m : Operand) (t : TypeId) (hop : o.op = Op.range t m) (k e : TypeId) (ht : P.underlying t = some (.map k e)) (b : Nat) (es : Array MapEntry) (clk : Nat) (hm : a.eval m = .map (some b)) (hb : w.heap[b]? = some (.map es clk))
    (hK : wpList P ops Q rest (a.put o.dst (.pointer (some ⟨w.heap.size, 0, none⟩))) (w.alloc (.mapIter (some b) clk #[] clk))) : wpList P ops Q (o :: rest) a w := by
  refine wpList_plain hg fun K' hK' => ?_
  have hrun := run_range_map (P := P) w t k e b es clk ht hb
  unfold Oper.wp execOp
  simp only [hop, hm, hrun, Sem.run_bind, Sem.run_pure, Result.andThen_ok]
  exact hK' _ _ hK
/-- The world behind a step of the range that brings entry e. -/
structure NextTo (w w2 : World) (r bm since clock : Nat) (seen : Array Nat) (es : Array MapEntry) (e : MapEntry) : Prop where
  left : e ∈ (leftOf es seen).toList
  here : w2.heap[r]? = some (.mapIter (some bm) since (seen.push e.born) clock)
  grown : w.grownBy w2 (some r)
  size : w2.heap.size = w.heap.size
theorem next_to {w w1 : World} {r bm since clock c0 : Nat} {seen : Array Nat} {es : Array MapEntry} {e : MapEntry} (hr : w.heap[r]? = some (.mapIter (some bm) since seen c0)) (he : e ∈ (leftOf es seen).toList) (h : w1 = w ∨ w1 = w.drew) :
    NextTo w (setBlock w1 r (.mapIter (some bm) since (seen.push e.born) clock)) r bm since clock seen es e := by
  have hlt := (Array.getElem?_eq_some_iff.1 hr).1
  have e1 : w1.heap = w.heap := by rcases h with rfl | rfl <;> rfl
  have e2 : w1.os = w.os ∧ w1.tape = w.tape ∧ w1.output = w.output := by rcases h with rfl | rfl <;> exact ⟨rfl, rfl, rfl⟩
  have hh : ∀ o' : Obj, (setBlock w1 r o').heap = w.heap.setIfInBounds r o' := fun o' => by rw [← e1]; rfl
  refine ⟨he, ?_, ⟨e2.1, e2.2.1, e2.2.2, ?_, fun k hk hne => ?_⟩, ?_⟩
  · rw [hh]; simp [hlt]
  · rw [hh]; simp
  · have : r ≠ k := fun e => hne (by rw [e])
    rw [hh]
    simp [Array.getElem?_setIfInBounds, this]
  · rw [hh]; simp
theorem wpList_next_at (hg : o.guard = none) (it : Operand) (hop : o.op = Op.next it false) (r bm since c0 clock : Nat) (seen : Array Nat) (es : Array MapEntry) (hit : a.eval it = .pointer (some ⟨r, 0, none⟩))
    (hr : w.heap[r]? = some (.mapIter (some bm) since seen c0)) (hb : w.heap[bm]? = some (.map es clock)) (hold : ∀ x ∈ es.toList, x.born < since) (hsc : since ≤ c0)
    (hDone : Hid ((leftOf es seen).size = 0) → wpList P ops Q rest (a.put o.dst (.tuple #[.bool false])) w)
    (hMore : ∀ e (w2 : World), Hid (NextTo w w2 r bm since clock seen es e) → wpList P ops Q rest (a.put o.dst (.tuple #[.bool true, e.key, e.val])) w2) : wpList P ops Q (o :: rest) a w := by
  refine wpList_plain hg fun K' hK' => ?_
  rcases run_next_at (P := P) w o.type r bm since c0 seen es clock hr hb hold hsc with ⟨h0, hrun⟩ | ⟨e, he, w1, hal, hrun⟩
  · unfold Oper.wp execOp
    simp only [hop, hit, hrun, Sem.run_bind, Sem.run_pure, Result.andThen_ok]
    exact hK' _ _ (hDone (Lib.hid h0))
  · unfold Oper.wp execOp
    simp only [hop, hit, hrun, Sem.run_bind, Sem.run_pure, Result.andThen_ok]
    exact hK' _ _ (hMore e _ (Lib.hid (next_to hr he hal)))
end
/-- Which verb an entry is. -/
def decK (p : Value × Value) : Fin 36 := match p.1 with
  | .string b => Fin.ofNat 36 (verbs.findIdx fun v => v.name == b.data.toList)
  | _ => 0
def dk (x : MapEntry) : Fin 36 := decK (x.key, x.val)
theorem decK_all : (verbs.map verbK).map decK = all36.toList := by decide +kernel
theorem decK_nth (v : GVerb) (h : v ∈ verbs) : nth (decK (verbK v)) = v := by
  have key : ∀ v ∈ verbs, nth (decK (verbK v)) = v := by decide +kernel
  exact key v h
/-- The loop under way. -/
structure Rng (w0 wr : World) (g : Nat) (arr : Array MapEntry) (clk : Nat) (v : Value) (L : List MapEntry) : Prop where
  it : ∃ c0, clk ≤ c0 ∧ wr.heap[w0.heap.size]? = some (.mapIter (some g) clk (L.map (·.born)).toArray c0)
  nd : (L.map (·.born)).Nodup
  mem : ∀ x ∈ L, x ∈ arr.toList
  own : wr.ownsRow (w0.heap.size + 1) 35 4 v L.length (L.flatMap fun x => encV (dk x))
  bel : Below w0.heap.size w0 wr
  lt : w0.heap.size < wr.heap.size
  cnt : L.length + (leftOf arr (L.map (·.born)).toArray).size ≤ arr.size
theorem rng_start {w0 : World} {g : Nat} {arr : Array MapEntry} {clk : Nat} : Rng w0 (w0.alloc (.mapIter (some g) clk #[] clk)) g arr clk (.slice none 0 0) [] := by
  refine ⟨⟨clk, Nat.le_refl _, heap_alloc_new _ _⟩, by simp, fun x h => by simp at h, by simpa using World.ownsRow_nil _ _ _ _, below_alloc0 _ _, by simp, ?_⟩
  simp only [List.length_nil, Nat.zero_add, leftOf]
  exact Array.size_filter_le
theorem rng_own {w0 wr w2 : World} {g : Nat} {arr : Array MapEntry} {clk : Nat} {v : Value} {L : List MapEntry} {e : MapEntry} (R : Rng w0 wr g arr clk v L) (N : NextTo wr w2 w0.heap.size g clk clk (L.map (·.born)).toArray arr e) (o1 o2 : Obj) :
    ((w2.alloc o1).alloc o2).ownsRow (w0.heap.size + 1) 35 4 v L.length (L.flatMap fun x => encV (dk x)) :=
  own_ext (own_ext (own_kept_ge R.own N.grown (fun k h => by cases h; omega)) (below_alloc0 _ _)) (below_alloc0 _ _)
theorem rng_step {w0 wr w2 w3 : World} {g : Nat} {arr : Array MapEntry} {clk : Nat} {v v' : Value} {L : List MapEntry} {e : MapEntry} (R : Rng w0 wr g arr clk v L) (N : NextTo wr w2 w0.heap.size g clk clk (L.map (·.born)).toArray arr e) (o1 o2 : Obj)
    (hb : wr.heap[g]? = some (.map arr clk)) (hgl : g < w0.heap.size)
    (hg : ((w2.alloc o1).alloc o2).grownBy w3 v.ownBlock) (ho : w3.ownsRow (w0.heap.size + 1) 35 4 v' (L.length + 1) ((L.flatMap fun x => encV (dk x)) ++ encV (dk e))) :
    Rng w0 w3 g arr clk v' (L ++ [e]) ∧ w3.rangeLeft g w0.heap.size < wr.rangeLeft g w0.heap.size := by
  obtain ⟨hea, hes⟩ := mem_left N.left
  obtain ⟨c0, hc0, hit⟩ := R.it
  have hsh := left_shrinks arr _ e N.left
  have hown : ∀ k, v.ownBlock = some k → w0.heap.size + 1 ≤ k := fun k hk => (R.own.lt k hk).1
  have hlt := R.lt
  have hs2 := N.size
  have keep : ∀ k, k ≤ w0.heap.size → w3.heap[k]? = w2.heap[k]? := fun k hk => by
    have h1 := hg.block k (by simp; omega) (fun h => by have := hown k h.symm; omega)
    have a1 := (below_alloc0 (w2.alloc o1) o2).block k (by simp; omega)
    have a2 := (below_alloc0 w2 o1).block k (by omega)
    rw [h1, a1, a2]
  have hpush : ((L.map (·.born)).toArray.push e.born) = ((L ++ [e]).map (·.born)).toArray := by simp
  have hit3 : w3.heap[w0.heap.size]? = some (.mapIter (some g) clk ((L ++ [e]).map (·.born)).toArray clk) := by
    rw [keep _ (Nat.le_refl _), N.here, hpush]
  have hb2 : w2.heap[g]? = some (.map arr clk) := (N.grown.block g (by omega) (by simp; omega)).trans hb
  have hb3 : w3.heap[g]? = some (.map arr clk) := by rw [keep g (by omega)]; exact hb2
  rw [hpush] at hsh
  have hsz : w2.heap.size + 2 ≤ w3.heap.size := by have := hg.size; simpa using this
  have bel2 : Below w0.heap.size w0 ((w2.alloc o1).alloc o2) :=
    (below_of_grown R.bel N.grown (by omega) (fun k h => by cases h; omega)).trans (((below_alloc0 w2 o1).mono (by omega)).trans ((below_alloc0 (w2.alloc o1) o2).mono (by simp; omega)))
  refine ⟨⟨⟨clk, Nat.le_refl _, hit3⟩, ?_, ?_, ?_, below_of_grown bel2 hg (by simp; omega) (fun k h => by have := hown k h; omega), by omega, ?_⟩, ?_⟩
  · rw [List.map_append, List.nodup_append]
    refine ⟨R.nd, by simp, fun a ha b hb' => ?_⟩
    simp only [List.map_cons, List.map_nil, List.mem_singleton] at hb'
    subst hb'
    rintro rfl
    have : (L.map (·.born)).toArray.contains e.born = true := by simpa using ha
    rw [this] at hes
    cases hes
  · intro x hx
    rcases List.mem_append.1 hx with h | h
    · exact R.mem x h
    · rw [List.mem_singleton.1 h]; exact hea
  · rw [List.length_append, List.flatMap_append]
    simpa using ho
  · have := R.cnt
    rw [List.length_append]
    simp only [List.length_cons, List.length_nil]
    omega
  · simp only [World.rangeLeft, hb3, hit3, hb, hit]
    exact hsh
theorem flat4 {α : Type} (f : α → List Value) (hf : ∀ x, (f x).length = 4) : ∀ (l : List α) (j : Nat), (l.flatMap f)[j]? = (l[j / 4]?).bind fun x => (f x)[j % 4]?
  | [], j => by simp
  | a :: l, j => by
    rw [List.flatMap_cons, List.getElem?_append, hf]
    split
    · rename_i h
      rw [Nat.div_eq_of_lt h, Nat.mod_eq_of_lt h]
      rfl
    · rename_i h
      rw [flat4 f hf l (j - 4)]
      have h1 : j / 4 = (j - 4) / 4 + 1 := by omega
      have h2 : (j - 4) % 4 = j % 4 := by omega
      rw [h1, h2, List.getElem?_cons_succ]
theorem nodup_of_map {α β : Type} (f : α → β) : ∀ {l : List α}, (l.map f).Nodup → l.Nodup
  | [], _ => List.nodup_nil
  | a :: l, h => by
    rw [List.map_cons, List.nodup_cons] at h
    exact List.nodup_cons.2 ⟨fun hm => h.1 (List.mem_map.2 ⟨a, hm, rfl⟩), nodup_of_map f h.2⟩
theorem rng_perm {w0 wr : World} {g : Nat} {arr : Array MapEntry} {clk : Nat} {v : Value} {L : List MapEntry} (R : Rng w0 wr g arr clk v L) (h0 : (leftOf arr (L.map (·.born)).toArray).size = 0) (hB : Born arr clk) {vs : List GVerb} (hv : vs.Perm verbs) (ha : arr.toList.map (fun x => (x.key, x.val)) = vs.map verbK) :
    (L.map dk).Perm all36.toList := by
  have hL : L.Perm arr.toList := by
    refine (List.perm_ext_iff_of_nodup (nodup_of_map _ R.nd) (nodup_of_map _ hB.1)).2 fun x => ⟨R.mem x, fun hx => ?_⟩
    have hs := all_seen arr _ h0 x hx
    have hs2 : x.born ∈ L.map (·.born) := by simpa using hs
    obtain ⟨y, hy, hyb⟩ := List.mem_map.1 hs2
    rw [← Go.born_inj hB.1 (R.mem y hy) hx hyb]
    exact hy
  have h1 := hL.map dk
  have h2 : arr.toList.map dk = (arr.toList.map fun x => (x.key, x.val)).map decK := by rw [List.map_map]; rfl
  rw [h2, ha] at h1
  refine h1.trans ?_
  rw [← decK_all]
  exact (hv.map verbK).map decK
theorem rng_end {w0 wr : World} {g : Nat} {arr : Array MapEntry} {clk : Nat} {v : Value} {L : List MapEntry} (R : Rng w0 wr g arr clk v L) (hp : (L.map dk).Perm all36.toList) :
    ∃ g' cap, v = .slice (some ⟨g', 0, none⟩) 36 cap ∧ w0.heap.size + 1 ≤ g' ∧ g' < wr.heap.size ∧ 36 ≤ cap ∧ cap ≤ maxLen ∧ HoldsK encV 4 wr g' 0 (L.map dk).toArray := by
  have hl : L.length = 36 := by
    have := hp.length_eq
    simpa [all36] using this
  have ho := R.own
  rw [hl] at ho
  have hoo := ho
  rcases ho.2 with ⟨_, h⟩ | ⟨g', cap, cur, rfl, hb, hg, hnc, hcm, hcs, ht⟩
  · omega
  · refine ⟨g', cap, rfl, hb, (Array.getElem?_eq_some_iff.1 hg).1, hnc, hcm, fun j hj => ?_⟩
    have hj' : j < 144 := by
      have : (flatK encV 4 (L.map dk).toArray).size = 36 * 4 := by rw [size_flatK]; simp [hl]
      omega
    have hi : j / 4 < L.length := by omega
    have hm : j % 4 < (encV (dk (L[j / 4]))).length := by rw [encV_len]; omega
    have hcell : (L.flatMap fun x => encV (dk x))[j]? = some ((encV (dk (L[j / 4])))[j % 4]) := by
      rw [flat4 _ (fun x => encV_len _), List.getElem?_eq_getElem hi]
      simp only [Option.bind_some]
      exact List.getElem?_eq_getElem hm
    have e1 : (flatK encV 4 (L.map dk).toArray)[j]! = (encV (dk (L[j / 4])))[j % 4] := by
      rw [get_flatK _ _ _ _ (by simp [hl]; omega)]
      have e2 : (L.map dk).toArray[j / 4]! = dk (L[j / 4]) := by
        rw [getElem!_pos (L.map dk).toArray (j / 4) (by simpa using hi)]
        simp
      rw [e2, getElem!_pos (encV (dk (L[j / 4]))) (j % 4) hm]
    refine ⟨?_, ?_⟩
    · rw [e1, Nat.zero_add]
      have := hoo.cells (g := g') rfl j _ hcell
      rwa [Addr.add_lit, Nat.zero_add] at this
    · simp [World.frozen?, hg]
end Go.Proofs.YtgagnohelibaoaaDoor
