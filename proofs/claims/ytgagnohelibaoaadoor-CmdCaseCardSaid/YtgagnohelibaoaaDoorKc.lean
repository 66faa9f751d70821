import Derived.Test.YtgagnohelibaoaaDoorKb
/-! The verbs, sorted. -/
set_option linter.unusedSimpArgs false
set_option linter.unusedVariables false
set_option maxHeartbeats 4000000
set_option maxRecDepth 100000
namespace Go.Proofs.YtgagnohelibaoaaDoor
open Go.RowKit Go.Lib Go.Sort Go.Shelf

def encV (i : Fin 36) : List Value := verbC (nth i)
theorem encV_len (i : Fin 36) : (encV i).length = 4 := rfl
theorem encV_one (i : Fin 36) : ∀ v ∈ encV i, v.oneCell' = true := fun v hv => by
  simp only [encV, verbC, List.mem_cons, List.not_mem_nil, or_false] at hv
  rcases hv with rfl | rfl | rfl | rfl <;> rfl
def all36 : Array (Fin 36) := Array.finRange 36
theorem sorted_all : SortedIn (ltOf cfV) 0 36 all36 := by
  intro i j _ hij hj
  rw [lt_eq]
  have e : ∀ k : Nat, (h : k < 36) → all36[k]! = ⟨k, h⟩ := by decide +kernel
  rw [e i (by omega), e j hj]
  simp
  omega
theorem sort_36 {d : Array (Fin 36)} (h : d.toList.Perm all36.toList) : (d.toList.mergeSort fun x y => !(ltOf cfV) y x).toArray = all36 := by
  have hs : d.size = 36 := by
    have := h.length_eq
    simpa [all36] using this
  have key := sorted_unique_holds swo one36 d all36 ⟨by rw [hs]; rfl, fun i hi => ?_, ?_⟩ (by rw [hs]; exact sorted_all)
  · rw [← key]
  · rcases hi with hi | hi
    · omega
    · have h36 : all36.size = 36 := rfl
      rw [getElem!_neg all36 i (by rw [h36]; omega), getElem!_neg d i (by omega)]
  · have e1 : all36.extract 0 d.size = all36 := by rw [hs]; exact Array.extract_size
    rw [e1, Array.extract_size]
    exact h.symm
theorem grown_sort (w : World) (g n : Nat) (d : Array (Fin 36)) (os : Array Obj) : w.grownBy (sortWorldK encV 4 w g 0 n d os) (some g) := by
  unfold sortWorldK putRowK
  refine ⟨rfl, rfl, rfl, by simp, fun k hk hne => ?_⟩
  rw [heap_grow_old _ _ (by simpa using hk)]
  have : g ≠ k := fun e => hne (by rw [e])
  simp [putRow, mapBlock, Sort.ahead, Array.getElem?_modify, this]
theorem sort_calls (blk cap : Nat) (d : Array (Fin 36)) (w : World) (hH : HoldsK encV 4 w blk 0 d) (hblk : blk < w.heap.size) (hp : d.toList.Perm all36.toList) :
    Calls Tryd.prog (Tryd.sortV_ren.f 6) #[.slice (some ⟨blk, 0, none⟩) 36 cap, .func (.func 28) #[] #[]] w fun e w' => e = .returned (.tuple #[]) ∧ w.grownBy w' (some blk) ∧ HoldsK encV 4 w' blk 0 all36 := by
  have hs : d.size = 36 := by
    have := hp.length_eq
    simpa [all36] using this
  have eg : ∀ args w, (callFunc 28 args).run Tryd.prog w = .ok (.enter 28 args) w := enters_of Tryd.func28 (by kernel_rfl) rfl
  have hcon := AnyQ.slices_SortFunc_total Tryd.sortV 4 Tryd.isAgg35 Tryd.sizeOf35 encV encV_len encV_one cfV swo 28 #[] blk 0 cap d w eg (fun m os dk hdk x y => less_calls (nth x) (nth y) _) hH hblk (by rw [hs]; omega) one36
  rw [hs] at hcon
  refine hcon.mono ?_
  rintro e w' ⟨rfl, n, os, rfl⟩
  rw [sort_36 hp]
  exact ⟨rfl, grown_sort w blk n all36 os, holdsK_sortWorldK encV 4 w blk 0 n d all36 os hblk hH (by rw [hs]; rfl)⟩
end Go.Proofs.YtgagnohelibaoaaDoor
