import Derived.Test.YtgagnohelibaoaaDoorMc
/-! cmd.Read. -/
set_option linter.unusedSimpArgs false
set_option linter.unusedVariables false
set_option maxHeartbeats 4000000
set_option maxRecDepth 100000
namespace Go.Proofs.YtgagnohelibaoaaDoor
open Go.RowKit

def strV (s : List UInt8) : Value := .string ⟨s.toArray⟩
def errW (n : Int) : Value := if n = 0 then .nilIface else .iface 49 (.int .i64 n)
theorem errW_is {S : Addr → Prop} {w : World} {n : Int} {v : Value} (h : CRel S w (errV n) v) : v = errW n := by
  unfold errV at h
  unfold errW
  split at h
  · rename_i h0
    rw [if_pos h0]
    cases h
    rfl
  · rename_i h0
    rw [if_neg h0]
    cases h
    rfl
theorem two_is {S : Addr → Prop} {w : World} {a b : List UInt8} {v : Value} (h : CRel S w (.agg [.str a, .str b]) v) : v = .agg #[strV a, strV b] := by
  cases h with
  | agg _ arr hs h =>
    have h0 : arr.getD 0 undef = strV a := plainV_eq (p := .str a) rfl (h 0 _ rfl)
    have h1 : arr.getD 1 undef = strV b := plainV_eq (p := .str b) rfl (h 1 _ rfl)
    obtain ⟨l⟩ := arr
    match l, hs with
    | [x, y], _ =>
      simp at h0 h1
      rw [h0, h1]
theorem read_is {S : Addr → Prop} {w : World} {a b : List UInt8} {n : Int} {v : Value} (h : CRel S w (.tup [.agg [.str a, .str b], errV n]) v) : v = .tuple #[.agg #[strV a, strV b], errW n] := by
  cases h with
  | tup _ arr hs h =>
    have h0 : arr.getD 0 undef = .agg #[strV a, strV b] := two_is (h 0 _ rfl)
    have h1 : arr.getD 1 undef = errW n := errW_is (h 1 _ rfl)
    obtain ⟨l⟩ := arr
    match l, hs with
    | [x, y], _ =>
      simp at h0 h1
      rw [h0, h1]
theorem read_raw (s : List UInt8) (hs : s.length ≤ 9223372036854775806) (w : World) (hG : Good w) : Calls Tryd.prog 23 #[strV s] w fun e w' => e = .returned (.tuple #[.agg #[strV (upB (cutA s)), strV (cutD s)], errW (errB s)]) ∧ Below w.heap.size w w' := by
  refine ((read_to s hs).2 w (fun _ => False) [strV s] hG (fun _ h => h.elim) rfl (fun i p hi => ?_)).mono ?_
  · match i, hi with
    | 0, hi => cases hi; exact .str _
    | n + 1, hi => simp at hi
  · rintro e w' ⟨v, S', μ, rfl, hb, _, _, _, hc, _⟩
    exact ⟨by rw [read_is (hc rfl)], hb⟩
def endW (s : List UInt8) : Value := .tuple #[.agg #[strV (readV s).verb, strV (readV s).arg], .int .i64 (errB s)]
theorem cell_kept {w w1 : World} {t : TypeId} {cs : Array Value} (hb : Below (w.alloc (.cells cs t)).heap.size (w.alloc (.cells cs t)) w1) : w1.heap[w.heap.size]? = some (.cells cs t) := by
  rw [hb.block w.heap.size (by simp)]
  have e : (w.alloc (.cells cs t)).heap = w.heap.push (.cells cs t) := rfl
  rw [e]
  simp
theorem results_cell {fn : Func} {a u : Tmp} (h : fn.results = #[.cell a 23, .tmp u]) (tmps : Array Value) (w : World) {ad : Addr} (x y v : Value) (hA : tmps[a]?.getD undef = .pointer (some ad)) (hu : tmps.getD u undef = v) (hx : w.cell? ad = some x) (hy : w.cell? (ad.add 1) = some y) :
    (results fn tmps).run Tryd.prog w = .ok (.tuple #[.agg #[x, y], v]) w := by
  subst hu
  unfold results
  rw [h]
  simp [hA, asAddr, loadVar, Tryd.isAgg23, Tryd.sizeOf23, hx, hy]
  have hl := run_loadCells (P := Tryd.prog) w ad 2 (fun j => if j = 0 then x else y) (fun j hj => by
    match j, hj with
    | 0, _ => simpa [Addr.add] using hx
    | 1, _ => simpa using hy)
  rw [hl]
  have e2 : List.range 2 = [0, 1] := rfl
  simp [e2]
theorem wp_gen {P : Program} {c : Code} {Q : Exit → Act → World → Prop} {a : Act} (w : World) (h : ∀ W, W = w → Code.wp P c Q a W) : Code.wp P c Q a w := h _ rfl
theorem good_cell {w : World} (h : Good w) : w.cell? ⟨0, 0, none⟩ = some (.iface 75 (.agg #[.pointer (some ⟨2, 46, none⟩)])) := (h _ (List.mem_singleton.2 rfl)).2
theorem Read_raw (s : List UInt8) (hs : s.length ≤ 9223372036854775806) (w : World) (hG : Good w) : Calls Tryd.prog 13 #[strV s] w fun e w' => e = .returned (endW s) ∧ Below w.heap.size w w' := by
  unfold strV
  by_cases h0 : errB s = 0
  · have e0 : errW (errB s) = .nilIface := by unfold errW; rw [if_pos h0]
    go_enter Tryd.func13, Tryd.ntmps13
    go_wp2_with (first
      | (go_at_call 23; refine (read_raw s hs _ (hG.below (below_alloc0 w _))).mono ?_; rintro e w1 ⟨rfl, hb⟩; rw [e0]; unfold strV; have hk := cell_kept hb; have hk0 : w1.cell? ⟨w.heap.size, 0, none⟩ = some (.string ⟨#[]⟩) := by simp [World.cell?, hk]
         have hk1 : w1.cell? ⟨w.heap.size, 1, none⟩ = some (.string ⟨#[]⟩) := by simp [World.cell?, hk]
         have hkf : ∀ i, w1.frozen? ⟨w.heap.size, i, none⟩ = false := by intro i; simp [World.frozen?, hk]
         have hkl : w.heap.size < w1.heap.size := by have := hb.size; simp at this; omega)
      | (go_at_call 24; refine (as_nil _ _).mono ?_; rintro e w2 ⟨rfl, rfl⟩))
    have b0 : Below w.heap.size w w1 := (below_alloc0 w _).trans (hb.mono (by simp))
    have rv : readV s = ⟨upB (cutA s), cutD s⟩ := by unfold readV; rw [if_pos h0]
    refine ⟨rfl, _, results_cell rfl _ _ (strV (readV s).verb) (strV (readV s).arg) (.int .i64 0) rfl ?_ ?_ ?_, by unfold endW; rw [h0], ?_⟩
    · rfl
    · rw [World.cell?_alloc_lt _ _ _ (by simp; omega), World.cell?_alloc_lt _ _ _ (by simp; omega), rv]
      go_simp
      rfl
    · rw [Addr.add_lit, World.cell?_alloc_lt _ _ _ (by simp; omega), World.cell?_alloc_lt _ _ _ (by simp; omega), rv]
      go_simp
      rfl
    · exact (((b0.setCell (Nat.le_refl _) _).setCell (Nat.le_refl _) _).alloc (by simp; omega) _).alloc (by simp; omega) _
  · have e0 : errW (errB s) = .iface 49 (.int .i64 (errB s)) := by unfold errW; rw [if_neg h0]
    go_enter Tryd.func13, Tryd.ntmps13
    go_wp2_with (first
      | (go_at_call 23; refine (read_raw s hs _ (hG.below (below_alloc0 w _))).mono ?_; rintro e w1 ⟨rfl, hb⟩; rw [e0]; unfold strV; have hk := cell_kept hb; have hk0 : w1.cell? ⟨w.heap.size, 0, none⟩ = some (.string ⟨#[]⟩) := by simp [World.cell?, hk]
         have hk1 : w1.cell? ⟨w.heap.size, 1, none⟩ = some (.string ⟨#[]⟩) := by simp [World.cell?, hk]
         have hkf : ∀ i, w1.frozen? ⟨w.heap.size, i, none⟩ = false := by intro i; simp [World.frozen?, hk]
         have hkl : w.heap.size < w1.heap.size := by have := hb.size; simp at this; omega
         have b0 : Below w.heap.size w w1 := (below_alloc0 w _).trans (hb.mono (by simp)))
      | (go_at_call 24; refine Calls.mono (as_hit (errB s) _ (.int .i64 0) _ (good_cell (((hG.below b0).below (below_alloc0 w1 _)).below (below_alloc0 _ _))) (by go_simp) (by go_simp)) ?_; rintro e w2 ⟨rfl, rfl⟩))
    have rv : readV s = ⟨[], []⟩ := readV_no h0
    refine wp_gen _ ?_
    intro W hW
    have f0 : W.cell? ⟨w.heap.size, 0, none⟩ = some (.string ⟨#[]⟩) := by rw [hW, World.cell?_alloc_lt _ _ _ (by simp; omega), World.cell?_alloc_lt _ _ _ (by simp; omega), World.cell?_alloc_lt _ _ _ (by simp; omega), World.cell?_alloc_lt _ _ _ (by simp; omega), World.cell?_alloc_lt _ _ _ (by simp; omega), World.cell?_alloc_lt _ _ _ (by simp; omega)]; exact hk0
    have f1 : W.cell? ⟨w.heap.size, 1, none⟩ = some (.string ⟨#[]⟩) := by rw [hW, World.cell?_alloc_lt _ _ _ (by simp; omega), World.cell?_alloc_lt _ _ _ (by simp; omega), World.cell?_alloc_lt _ _ _ (by simp; omega), World.cell?_alloc_lt _ _ _ (by simp; omega), World.cell?_alloc_lt _ _ _ (by simp; omega), World.cell?_alloc_lt _ _ _ (by simp; omega)]; exact hk1
    have f2 : ∀ i, W.frozen? ⟨w.heap.size, i, none⟩ = false := by intro i; rw [hW, World.frozen?_alloc_old _ _ _ (by simp; omega), World.frozen?_alloc_old _ _ _ (by simp; omega), World.frozen?_alloc_old _ _ _ (by simp; omega), World.frozen?_alloc_old _ _ _ (by simp; omega), World.frozen?_alloc_old _ _ _ (by simp; omega), World.frozen?_alloc_old _ _ _ (by simp; omega)]; exact hkf i
    have f3 : W.cell? ⟨w1.heap.size + 1, 0, none⟩ = some (.int .i64 (errB s)) := by rw [hW]; go_simp
    have bW : Below w.heap.size w W := by
      rw [hW]
      exact (((((b0.alloc (by omega) _).alloc (by simp; omega) _).alloc (by simp; omega) _).alloc (by simp; omega) _).alloc (by simp; omega) _).alloc (by simp; omega) _
    clear hW
    go_region
    all_goals (try go_wp2)
    all_goals (refine ⟨rfl, _, results_cell rfl _ _ (strV (readV s).verb) (strV (readV s).arg) (.int .i64 (errB s)) rfl ?_ ?_ ?_, by unfold endW; rfl, ?_⟩)
    · rfl
    · rw [rv]
      go_simp
      rfl
    · rw [rv, Addr.add_lit]
      go_simp
      rfl
    · exact ((bW.setCell (Nat.le_refl _) _).setCell (Nat.le_refl _) _).drew
theorem crel_two {S : Addr → Prop} {w : World} (a b : List UInt8) : CRel S w (.agg [.str a, .str b]) (.agg #[strV a, strV b]) :=
  .agg _ _ rfl fun i p hi => by
    match i, hi with
    | 0, hi => cases hi; exact .str _
    | 1, hi => cases hi; exact .str _
    | n + 2, hi => simp at hi
theorem crel_end {S : Addr → Prop} {w : World} (s : List UInt8) : CRel S w (readP s) (endW s) :=
  .tup _ _ rfl fun i p hi => by
    match i, hi with
    | 0, hi => cases hi; exact crel_two _ _
    | 1, hi => cases hi; exact .int _ _
    | n + 2, hi => simp at hi
theorem Read_to (s : List UInt8) (hs : s.length ≤ 9223372036854775806) : CallsTo Tryd.prog 13 [.str s] (readP s) [] := by
  refine ⟨by kernel_rfl, fun w S us hG hS hl hrel => ?_⟩
  have e : us = [strV s] := by
    match us, hl with
    | [u], _ =>
      have := plainV_eq (p := .str s) rfl (hrel 0 _ rfl)
      simp at this
      rw [this]
      rfl
  subst e
  refine (Read_raw s hs w hG).mono fun e w' ⟨he, hb⟩ => ⟨_, S, fun _ => undef, he, hb, fun a _ => .rfl, fun a ha => ⟨Nat.lt_of_lt_of_le (hS a ha).1 hb.size, (hS a ha).2⟩, .c (crel_end s), fun _ => crel_end s, fun t e k n h => (by cases h), fun x h => (by cases h)⟩
end Go.Proofs.YtgagnohelibaoaaDoor
