import Derived.Test.YtgagnohelibaoaaDoorV
/-! How an activation in memory stands to one without: slots, boxes, tokens. -/
set_option linter.unusedSimpArgs false
set_option linter.unusedVariables false
namespace Go.Proofs.YtgagnohelibaoaaDoor
open Go.RowKit

/-- What the call itself keeps in memory: a box of cells, or the right to append to a slice of n elements of k cells each. -/
inductive HObj where
  | box (cs : List PV)
  | tok (e : TypeId) (k n : Nat)
  | map (es : List (PV × PV))
  /-- What ranges over a text. -/
  | siter (s : List UInt8) (pos : Nat)
  /-- Something of the call's own, as it lies in memory. -/
  | raw (v : Value) (o : Obj)

/-- An activation: its slots, its boxes and tokens, the names that are met. -/
structure St where
  T : Nat → PV
  H : Nat → Option HObj
  D : Nat → Prop

def upd {α : Type} (f : Nat → α) (d : Nat) (p : α) : Nat → α := fun x => if x = d then p else f x
theorem upd_same {α : Type} (f : Nat → α) (d : Nat) (p : α) : upd f d p d = p := if_pos rfl
theorem upd_ne {α : Type} (f : Nat → α) {d x : Nat} (p : α) (h : x ≠ d) : upd f d p x = f x := if_neg h
/-- A slot written, if there is one to write. -/
def putT (T : Nat → PV) (dst : Option Tmp) (p : PV) : Nat → PV :=
  match dst with
  | some d => upd T d p
  | none => T
/-- The block of a value. -/
def blk : Value → Option Nat
  | .slice (some a) _ _ => some a.block
  | .pointer (some a) => some a.block
  | .map (some g) => some g
  | _ => none

/-- The entries of a map bear stamps of their own. -/
def Born (arr : Array MapEntry) (clk : Nat) : Prop := (arr.toList.map (·.born)).Nodup ∧ ∀ e ∈ arr.toList, e.born < clk
theorem born_push {arr : Array MapEntry} {clk : Nat} (h : Born arr clk) {e : MapEntry} (he : e.born = clk) : Born (arr.push e) (clk + 1) := by
  obtain ⟨h1, h2⟩ := h
  refine ⟨?_, fun x hx => ?_⟩
  · rw [Array.toList_push, List.map_append, List.nodup_append]
    refine ⟨h1, by simp, fun a ha b hb => ?_⟩
    obtain ⟨x, hx, rfl⟩ := List.mem_map.1 ha
    simp only [List.map_cons, List.map_nil, List.mem_singleton] at hb
    subst hb
    have := h2 x hx
    omega
  · rw [Array.toList_push] at hx
    rcases List.mem_append.1 hx with hx | hx
    · have := h2 x hx; omega
    · simp only [List.mem_singleton] at hx
      subst hx
      omega
def HRel (B : Nat) (S : Addr → Prop) (μ : Nat → Value) (D : Nat → Prop) (w : World) (nm : Nat) : HObj → Prop
  | .box cs => ∃ g, μ nm = .pointer (some ⟨g, 0, none⟩) ∧ B ≤ g ∧ g < w.heap.size ∧ (∀ (j : Nat) p, cs[j]? = some p → ∃ u, w.cell? ⟨g, j, none⟩ = some u ∧ Rel S μ D w p u) ∧ (∀ j, j < cs.length → w.frozen? ⟨g, j, none⟩ = false) ∧
      ∀ a : Addr, a.block = g → ¬ S a
  | .map es0 => ∃ es : List (PV × PV), (es.Perm es0 ∧ (es0.map (·.1)).Nodup) ∧ ∃ g arr clk, μ nm = .map (some g) ∧ B ≤ g ∧ g < w.heap.size ∧ w.heap[g]? = some (.map arr clk) ∧ arr.size = es.length ∧ (∀ (i : Nat) e, es[i]? = some e → ∃ x, arr[i]? = some x ∧ Rel S μ D w e.1 x.key ∧ Rel S μ D w e.2 x.val) ∧ (∀ a : Addr, a.block = g → ¬ S a) ∧ Born arr clk
  | .siter s pos => ∃ g, μ nm = .pointer (some ⟨g, 0, none⟩) ∧ B ≤ g ∧ g < w.heap.size ∧ w.heap[g]? = some (.stringIter ⟨s.toArray⟩ pos) ∧ ∀ a : Addr, a.block = g → ¬ S a
  | .raw v o => ∃ g, μ nm = v ∧ blk v = some g ∧ B ≤ g ∧ g < w.heap.size ∧ w.heap[g]? = some o ∧ ∀ a : Addr, a.block = g → ¬ S a
  | .tok e k n => ∃ vs, 2 ≤ nm ∧ w.ownsRow B e k (μ nm) n vs ∧ ∀ a : Addr, blk (μ nm) = some a.block → n * k ≤ a.off → ¬ S a

theorem hrel_blk {B : Nat} {S : Addr → Prop} {μ : Nat → Value} {D : Nat → Prop} {w : World} {nm : Nat} {o : HObj} (h : HRel B S μ D w nm o) : ∀ g, blk (μ nm) = some g → B ≤ g ∧ g < w.heap.size := by
  intro g hg
  cases o with
  | box cs =>
    obtain ⟨g', h1, h2, h3, _⟩ := h
    rw [h1] at hg
    cases hg
    exact ⟨h2, h3⟩
  | map es =>
    obtain ⟨es', hes', g', arr, clk, h1, h2, h3, _⟩ := h
    rw [h1] at hg
    cases hg
    exact ⟨h2, h3⟩
  | siter s pos =>
    obtain ⟨g', h1, h2, h3, _⟩ := h
    rw [h1] at hg
    cases hg
    exact ⟨h2, h3⟩
  | raw v o =>
    obtain ⟨g', h1, h0, h2, h3, _⟩ := h
    rw [h1, h0] at hg
    cases hg
    exact ⟨h2, h3⟩
  | tok e k n =>
    obtain ⟨vs, _, h1, _⟩ := h
    refine h1.lt g ?_
    unfold blk at hg
    unfold Value.ownBlock
    rcases h1.2 with ⟨h, _⟩ | ⟨g', c, cur, h, _⟩ <;> rw [h] at hg ⊢
    · cases hg
    · simpa using hg

/-- A box or token stays where its block does. -/
theorem HRel.keep {B : Nat} {S S' : Addr → Prop} {μ μ' : Nat → Value} {D D' : Nat → Prop} {w w' : World} {nm : Nat} {o : HObj} (h : HRel B S μ D w nm o) (hS : ∀ a, S a → S' a) (hw : ∀ a, S a → w'.cell? a = w.cell? a)
    (hx : ∀ m, D m → D' m) (hμ : ∀ m, D m → μ' m = μ m) (hnm : D nm) (hsz : w.heap.size ≤ w'.heap.size) (hb : ∀ g, blk (μ nm) = some g → w'.heap[g]? = w.heap[g]? ∧ ∀ a : Addr, a.block = g → S' a → S a) : HRel B S' μ' D' w' nm o := by
  have e := hμ nm hnm
  cases o with
  | box cs =>
    obtain ⟨g, h1, h2, h3, h4, h5, h6⟩ := h
    obtain ⟨hh, hs⟩ := hb g (by rw [h1]; rfl)
    refine ⟨g, e.trans h1, h2, by omega, fun j p hp => ?_, fun j hj => (World.frozen?_of_block (w := w) (a := ⟨g, j, none⟩) hh).trans (h5 j hj), fun a ha hs' => h6 a ha (hs a ha hs')⟩
    obtain ⟨u, hu, hr⟩ := h4 j p hp
    exact ⟨u, (World.cell?_of_block (w := w) (a := ⟨g, j, none⟩) hh).trans hu, hr.mono hS hw hx hμ⟩
  | map es =>
    obtain ⟨es', hes', g, arr, clk, h1, h2, h3, h4, h5, h6, h7⟩ := h
    obtain ⟨hh, hs⟩ := hb g (by rw [h1]; rfl)
    refine ⟨es', hes', g, arr, clk, e.trans h1, h2, by omega, hh.trans h4, h5, fun i x hi => ?_, ⟨fun a ha hs' => h7.1 a ha (hs a ha hs'), h7.2⟩⟩
    obtain ⟨y, hy, r1, r2⟩ := h6 i x hi
    exact ⟨y, hy, r1.mono hS hw hx hμ, r2.mono hS hw hx hμ⟩
  | siter s pos =>
    obtain ⟨g, h1, h2, h3, h4, h5⟩ := h
    obtain ⟨hh, hs⟩ := hb g (by rw [h1]; rfl)
    exact ⟨g, e.trans h1, h2, by omega, hh.trans h4, fun a ha hs' => h5 a ha (hs a ha hs')⟩
  | raw v o =>
    obtain ⟨g, h1, h0, h2, h3, h4, h5⟩ := h
    obtain ⟨hh, hs⟩ := hb g (by rw [h1]; exact h0)
    exact ⟨g, e.trans h1, h0, h2, by omega, hh.trans h4, fun a ha hs' => h5 a ha (hs a ha hs')⟩
  | tok e' k n =>
    obtain ⟨vs, h0, h1, h2⟩ := h
    refine ⟨vs, h0, ?_, ?_⟩
    · rw [e]
      refine ⟨h1.1, ?_⟩
      rcases h1.2 with h | ⟨g, c, cur, hv, hB, hg, rest⟩
      · exact .inl h
      · obtain ⟨hh, _⟩ := hb g (by rw [hv]; rfl)
        exact .inr ⟨g, c, cur, hv, hB, hh.trans hg, rest⟩
    · intro a ha hn hs
      rw [e] at ha
      exact h2 a ha hn ((hb a.block ha).2 a rfl hs)

/-- Package-level variables that hold throughout what they began with. -/
def globs : List (Addr × Value) := [(⟨0, 0, none⟩, .iface 75 (.agg #[.pointer (some ⟨2, 46, none⟩)]))]
def Good (w : World) : Prop := ∀ x ∈ globs, x.1.block < w.heap.size ∧ w.cell? x.1 = some x.2
theorem Good.below {w w' : World} (h : Good w) (hb : Below w.heap.size w w') : Good w' := fun x hx => ⟨Nat.lt_of_lt_of_le (h x hx).1 hb.size, (hb.cell (h x hx).1).trans (h x hx).2⟩
/-- How an activation in memory stands to one without. -/
structure Sim (nt : Nat) (w0 : World) (S0 : Addr → Prop) (E : List (PV × Value)) (S : Addr → Prop) (μ : Nat → Value) (st : St) (a : Act) (w : World) : Prop where
  defers : a.defers = []
  size : a.tmps.size = nt
  tmps : ∀ i, Rel S μ st.D w (st.T i) (a.tmps.getD i undef)
  extra : ∀ p ∈ E, Rel S μ st.D w p.1 p.2
  heap : ∀ nm o, st.H nm = some o → HRel w0.heap.size S μ st.D w nm o
  apart : ∀ nm nm' o o', st.H nm = some o → st.H nm' = some o' → nm ≠ nm' → ∀ g, blk (μ nm) = some g → blk (μ nm') ≠ some g
  fresh : ∀ nm, ¬ st.D nm → st.H nm = none
  below : Below w0.heap.size w0 w
  s0 : ∀ a : Addr, a.block < w0.heap.size → (S a ↔ S0 a)
  slt : ∀ a : Addr, S a → a.block < w.heap.size ∧ a.spot = none
  low : ∀ m, m < 2 → st.D m
  good : Good w0

section
variable {nt : Nat} {w0 : World} {S0 : Addr → Prop} {E : List (PV × Value)} {S S' : Addr → Prop} {μ μ' : Nat → Value} {st : St} {a : Act} {w w' : World}

theorem Sim.lt (h : Sim nt w0 S0 E S μ st a w) {nm : Nat} {o : HObj} (hn : st.H nm = some o) : st.D nm := by
  by_cases h' : st.D nm
  · exact h'
  · rw [h.fresh nm h'] at hn; cases hn

theorem Sim.two (h : Sim nt w0 S0 E S μ st a w) (nm : Nat) (hn : ¬ st.D nm) : 2 ≤ nm := by
  rcases Nat.lt_or_ge nm 2 with h' | h'
  · exact absurd (h.low nm h') hn
  · exact h'
/-- A slot is written. -/
theorem Sim.put (h : Sim nt w0 S0 E S μ st a w) (dst : Option Tmp) (hd : ∀ d, dst = some d → d < nt) {p : PV} {v : Value} (hr : Rel S μ st.D w p v) :
    Sim nt w0 S0 E S μ { T := putT st.T dst p, H := st.H, D := st.D } (a.put dst v) w := by
  cases dst with
  | none => exact h
  | some d =>
    have hlt := hd d rfl
    refine ⟨h.defers, by simpa [Act.put] using h.size, fun i => ?_, h.extra, h.heap, h.apart, h.fresh, h.below, h.s0, h.slt, h.low, h.good⟩
    show Rel S μ st.D w (upd st.T d p i) ((a.tmps.setIfInBounds d v).getD i undef)
    by_cases hi : i = d
    · subst hi
      rw [upd_same]
      have : (a.tmps.setIfInBounds i v).getD i undef = v := by
        have : i < a.tmps.size := by rw [h.size]; exact hlt
        simp [this]
      rw [this]
      exact hr
    · rw [upd_ne _ _ hi]
      have : (a.tmps.setIfInBounds d v).getD i undef = a.tmps.getD i undef := by
        simp only [Array.getD_eq_getD_getElem?, Array.getElem?_setIfInBounds_ne (Ne.symm hi)]
      rw [this]
      exact h.tmps i

/-- Memory comes on: what is kept is told anew. -/
theorem Sim.on (h : Sim nt w0 S0 E S μ st a w) {H' : Nat → Option HObj} {D' : Nat → Prop} (hS : ∀ a, S a → S' a) (hw : ∀ a, S a → w'.cell? a = w.cell? a) (hN : ∀ m, st.D m → D' m) (hμ : ∀ m, st.D m → μ' m = μ m)
    (heap : ∀ nm o, H' nm = some o → HRel w0.heap.size S' μ' D' w' nm o)
    (apart : ∀ nm nm' o o', H' nm = some o → H' nm' = some o' → nm ≠ nm' → ∀ g, blk (μ' nm) = some g → blk (μ' nm') ≠ some g)
    (fresh : ∀ nm, ¬ D' nm → H' nm = none) (hb : Below w0.heap.size w w') (s0 : ∀ a : Addr, a.block < w0.heap.size → S' a → S a) (slt : ∀ a : Addr, S' a → a.block < w'.heap.size ∧ a.spot = none) :
    Sim nt w0 S0 E S' μ' { T := st.T, H := H', D := D' } a w' :=
  ⟨h.defers, h.size, fun i => (h.tmps i).mono hS hw hN hμ, fun p hp => (h.extra p hp).mono hS hw hN hμ, heap, apart, fresh, h.below.trans hb, fun a ha => ⟨fun hs => (h.s0 a ha).1 (s0 a ha hs), fun hs => hS a ((h.s0 a ha).2 hs)⟩, slt, fun m hm => hN m (h.low m hm), h.good⟩

/-- A draw. -/
theorem Sim.drew (h : Sim nt w0 S0 E S μ st a w) : Sim nt w0 S0 E S μ st a w.drew :=
  h.on (fun _ h => h) (fun _ _ => rfl) (fun _ h => h) (fun _ _ => rfl)
    (fun nm o hn => (h.heap nm o hn).keep (fun _ h => h) (fun _ _ => rfl) (fun _ h => h) (fun _ _ => rfl) (h.lt hn) (Nat.le_refl _) (fun g _ => ⟨rfl, fun _ _ h => h⟩))
    h.apart h.fresh ⟨rfl, rfl, rfl, Nat.le_refl _, fun _ _ => rfl⟩ (fun _ _ h => h) h.slt

/-- Memory comes on apart from all that is kept, as behind a call; more cells may stay for good. -/
theorem Sim.called (h : Sim nt w0 S0 E S μ st a w) (hb : Below w.heap.size w w') (hS : ∀ a, S a → S' a) (hS' : ∀ a : Addr, a.block < w.heap.size → S' a → S a) (slt : ∀ a : Addr, S' a → a.block < w'.heap.size ∧ a.spot = none) : Sim nt w0 S0 E S' μ st a w' := by
  have hB : w0.heap.size ≤ w.heap.size := h.below.size
  have hw : ∀ a, S a → w'.cell? a = w.cell? a := fun a ha => hb.cell (h.slt a ha).1
  exact h.on hS hw (fun _ h => h) (fun _ _ => rfl)
    (fun nm o hn => (h.heap nm o hn).keep hS hw (fun _ h => h) (fun _ _ => rfl) (h.lt hn) hb.size (fun g hg => by
      have := hrel_blk (h.heap nm o hn) g hg
      exact ⟨hb.block g this.2, fun a ha hs => hS' a (by omega) hs⟩))
    h.apart h.fresh (hb.mono hB) (fun a ha hs => hS' a (by omega) hs) slt

theorem cell_alloc (w : World) (C : Array Value) (t : TypeId) (fr : Nat × Nat) (j : Nat) : (w.alloc (.cells C t fr)).cell? ⟨w.heap.size, j, none⟩ = C[j]? := by
  have hg : (w.alloc (.cells C t fr)).heap[w.heap.size]? = some (.cells C t fr) := by
    show (w.heap.push (.cells C t fr))[w.heap.size]? = _
    simp
  unfold World.cell?
  rw [hg]
  simp

/-- A new box. -/
theorem Sim.box (h : Sim nt w0 S0 E S μ st a w) (nm : Nat) (hnm : ¬ st.D nm) (cs : List PV) (C : Array Value) (t : TypeId) (hs : ∀ (i : Nat) p, cs[i]? = some p → ∃ u, C[i]? = some u ∧ Rel S μ st.D w p u) :
    Sim nt w0 S0 E S (upd μ nm (.pointer (some ⟨w.heap.size, 0, none⟩))) { T := st.T, H := upd st.H nm (some (.box cs)), D := fun m => st.D m ∨ m = nm } a (w.alloc (.cells C t)) := by
  have hB : w0.heap.size ≤ w.heap.size := h.below.size
  have hb := (Below.refl w.heap.size w).alloc (Nat.le_refl _) (.cells C t)
  have hw : ∀ a, S a → (w.alloc (.cells C t)).cell? a = w.cell? a := fun a ha => hb.cell (h.slt a ha).1
  have hμ : ∀ m, st.D m → upd μ nm (.pointer (some ⟨w.heap.size, 0, none⟩)) m = μ m := fun m hm => upd_ne _ _ (fun e => hnm (e ▸ hm))
  have hD : ∀ m, st.D m → st.D m ∨ m = nm := fun m hm => .inl hm
  refine h.on (fun _ h => h) hw hD hμ ?_ ?_ ?_ (hb.mono hB) (fun _ _ h => h) (fun a ha => ⟨Nat.lt_of_lt_of_le (h.slt a ha).1 hb.size, (h.slt a ha).2⟩)
  · intro m o hm
    by_cases hmn : m = nm
    · subst hmn
      rw [upd_same] at hm
      cases hm
      refine ⟨w.heap.size, upd_same _ _ _, hB, by simp, fun j p hp => ?_, fun j _ => by simp, fun a ha hS => ?_⟩
      · obtain ⟨u, hu, hr⟩ := hs j p hp
        exact ⟨u, (cell_alloc w C t (0, 0) j).trans hu, hr.mono (fun _ h => h) hw hD hμ⟩
      · have := (h.slt a hS).1; omega
    · rw [upd_ne _ _ hmn] at hm
      exact (h.heap m o hm).keep (fun _ h => h) hw hD hμ (h.lt hm) hb.size (fun g hg => ⟨hb.block g (hrel_blk (h.heap m o hm) g hg).2, fun _ _ h => h⟩)
  · intro m m' o o' hm hm' hne g hg hg'
    by_cases h1 : m = nm
    · subst h1
      rw [upd_same] at hg
      have h2 : m' ≠ m := fun e => hne e.symm
      rw [upd_ne _ _ h2] at hg' hm'
      cases hg
      exact absurd (hrel_blk (h.heap m' o' hm') _ hg').2 (Nat.lt_irrefl _)
    · rw [upd_ne _ _ h1] at hg hm
      by_cases h2 : m' = nm
      · subst h2
        rw [upd_same] at hg'
        cases hg'
        exact absurd (hrel_blk (h.heap m o hm) _ hg).2 (Nat.lt_irrefl _)
      · rw [upd_ne _ _ h2] at hg' hm'
        exact h.apart m m' o o' hm hm' hne g hg hg'
  · intro m hm
    rw [upd_ne _ _ (fun e => hm (.inr e))]
    exact h.fresh m (fun e => hm (.inl e))

theorem Sim.boxF (h : Sim nt w0 S0 E S μ st a w) (nm : Nat) (hnm : ¬ st.D nm) (cs : List PV) (C : Array Value) (t : TypeId) (fr : Nat × Nat) (hfr : ∀ j, j < cs.length → (w.alloc (.cells C t fr)).frozen? ⟨w.heap.size, j, none⟩ = false) (hs : ∀ (i : Nat) p, cs[i]? = some p → ∃ u, C[i]? = some u ∧ Rel S μ st.D w p u) :
    Sim nt w0 S0 E S (upd μ nm (.pointer (some ⟨w.heap.size, 0, none⟩))) { T := st.T, H := upd st.H nm (some (.box cs)), D := fun m => st.D m ∨ m = nm } a (w.alloc (.cells C t fr)) := by
  have hB : w0.heap.size ≤ w.heap.size := h.below.size
  have hb := (Below.refl w.heap.size w).alloc (Nat.le_refl _) (.cells C t fr)
  have hw : ∀ a, S a → (w.alloc (.cells C t fr)).cell? a = w.cell? a := fun a ha => hb.cell (h.slt a ha).1
  have hμ : ∀ m, st.D m → upd μ nm (.pointer (some ⟨w.heap.size, 0, none⟩)) m = μ m := fun m hm => upd_ne _ _ (fun e => hnm (e ▸ hm))
  have hD : ∀ m, st.D m → st.D m ∨ m = nm := fun m hm => .inl hm
  refine h.on (fun _ h => h) hw hD hμ ?_ ?_ ?_ (hb.mono hB) (fun _ _ h => h) (fun a ha => ⟨Nat.lt_of_lt_of_le (h.slt a ha).1 hb.size, (h.slt a ha).2⟩)
  · intro m o hm
    by_cases hmn : m = nm
    · subst hmn
      rw [upd_same] at hm
      cases hm
      refine ⟨w.heap.size, upd_same _ _ _, hB, by simp, fun j p hp => ?_, hfr, fun a ha hS => ?_⟩
      · obtain ⟨u, hu, hr⟩ := hs j p hp
        exact ⟨u, (cell_alloc w C t fr j).trans hu, hr.mono (fun _ h => h) hw hD hμ⟩
      · have := (h.slt a hS).1; omega
    · rw [upd_ne _ _ hmn] at hm
      exact (h.heap m o hm).keep (fun _ h => h) hw hD hμ (h.lt hm) hb.size (fun g hg => ⟨hb.block g (hrel_blk (h.heap m o hm) g hg).2, fun _ _ h => h⟩)
  · intro m m' o o' hm hm' hne g hg hg'
    by_cases h1 : m = nm
    · subst h1
      rw [upd_same] at hg
      have h2 : m' ≠ m := fun e => hne e.symm
      rw [upd_ne _ _ h2] at hg' hm'
      cases hg
      exact absurd (hrel_blk (h.heap m' o' hm') _ hg').2 (Nat.lt_irrefl _)
    · rw [upd_ne _ _ h1] at hg hm
      by_cases h2 : m' = nm
      · subst h2
        rw [upd_same] at hg'
        cases hg'
        exact absurd (hrel_blk (h.heap m o hm) _ hg).2 (Nat.lt_irrefl _)
      · rw [upd_ne _ _ h2] at hg' hm'
        exact h.apart m m' o o' hm hm' hne g hg hg'
  · intro m hm
    rw [upd_ne _ _ (fun e => hm (.inr e))]
    exact h.fresh m (fun e => hm (.inl e))

/-- More names are met. -/
theorem Sim.more (h : Sim nt w0 S0 E S μ st a w) {D' : Nat → Prop} (hD : ∀ m, st.D m → D' m) : Sim nt w0 S0 E S μ { T := st.T, H := st.H, D := D' } a w :=
  h.on (fun _ h => h) (fun _ _ => rfl) hD (fun _ _ => rfl)
    (fun nm o hn => (h.heap nm o hn).keep (fun _ h => h) (fun _ _ => rfl) hD (fun _ _ => rfl) (h.lt hn) (Nat.le_refl _) (fun g _ => ⟨rfl, fun _ _ h => h⟩))
    h.apart (fun m hm => h.fresh m (fun e => hm (hD m e))) (Below.refl _ _) (fun _ _ h => h) h.slt
/-- A name is forgotten. -/
theorem Sim.drop (h : Sim nt w0 S0 E S μ st a w) (nm : Nat) : Sim nt w0 S0 E S μ { T := st.T, H := upd st.H nm none, D := st.D } a w := by
  have hof : ∀ m o, upd st.H nm none m = some o → st.H m = some o := by
    intro m o hm
    by_cases e : m = nm
    · subst e; rw [upd_same] at hm; cases hm
    · rwa [upd_ne _ _ e] at hm
  refine ⟨h.defers, h.size, h.tmps, h.extra, fun m o hm => h.heap m o (hof m o hm), fun m m' o o' hm hm' => h.apart m m' o o' (hof m o hm) (hof m' o' hm'), fun m hm => ?_, h.below, h.s0, h.slt, h.low, h.good⟩
  by_cases e : m = nm
  · subst e; exact upd_same _ _ _
  · exact (upd_ne _ _ e).trans (h.fresh m hm)
/-- A name for what is kept. -/
theorem Sim.name (h : Sim nt w0 S0 E S μ st a w) (nm : Nat) (hnm : ¬ st.D nm) (v : Value) (o : HObj) (ho : HRel w0.heap.size S (upd μ nm v) (fun m => st.D m ∨ m = nm) w nm o)
    (hap : ∀ m o', st.H m = some o' → ∀ g, blk (μ m) = some g → blk v ≠ some g) : Sim nt w0 S0 E S (upd μ nm v) { T := st.T, H := upd st.H nm (some o), D := fun m => st.D m ∨ m = nm } a w := by
  have hμ : ∀ m, st.D m → upd μ nm v m = μ m := fun m hm => upd_ne _ _ (fun e => hnm (e ▸ hm))
  have hD : ∀ m, st.D m → st.D m ∨ m = nm := fun m hm => .inl hm
  refine h.on (fun _ h => h) (fun _ _ => rfl) hD hμ ?_ ?_ ?_ (Below.refl _ _) (fun _ _ h => h) h.slt
  · intro m o' hm
    by_cases e : m = nm
    · subst e
      rw [upd_same] at hm
      cases hm
      exact ho
    · rw [upd_ne _ _ e] at hm
      exact (h.heap m o' hm).keep (fun _ h => h) (fun _ _ => rfl) hD hμ (h.lt hm) (Nat.le_refl _) (fun g hg => ⟨rfl, fun _ _ h => h⟩)
  · intro m m' o1 o2 hm hm' hne g hg hg'
    by_cases e1 : m = nm
    · subst e1
      have e2 : m' ≠ m := fun e => hne e.symm
      rw [upd_same] at hg
      rw [upd_ne _ _ e2] at hg' hm'
      exact hap m' o2 hm' g hg' hg
    · rw [upd_ne _ _ e1] at hg hm
      by_cases e2 : m' = nm
      · subst e2
        rw [upd_same] at hg'
        exact hap m o1 hm g hg hg'
      · rw [upd_ne _ _ e2] at hg' hm'
        exact h.apart m m' o1 o2 hm hm' hne g hg hg'
  · intro m hm
    rw [upd_ne _ _ (fun e => hm (.inr e))]
    exact h.fresh m (fun e => hm (.inl e))
/-- The cells that stay, with those of a row. -/
def addRow (S : Addr → Prop) (g n : Nat) : Addr → Prop := fun a => S a ∨ (a.block = g ∧ a.off < n ∧ a.spot = none)
/-- A new row of elements. -/
theorem Sim.row (h : Sim nt w0 S0 E S μ st a w) (hb : Below w.heap.size w w') {cur : Array Value} {e : TypeId} {fr : Nat × Nat} (hg : w'.heap[w.heap.size]? = some (.cells cur e fr)) (xs : List (List PV)) (k cap : Nat) (hc : xs.length ≤ cap)
    (hm : cap ≤ maxLen) (hk : ∀ x ∈ xs, x.length = k) (u : Nat → Nat → Value) (hone : ∀ i j, (u i j).oneCell' = true)
    (hcur : ∀ (i j : Nat) x p, xs[i]? = some x → x[j]? = some p → cur[i * k + j]? = some (u i j) ∧ CRel S w p (u i j)) :
    Sim nt w0 S0 E (addRow S w.heap.size (xs.length * k)) μ st a w' ∧ CRel (addRow S w.heap.size (xs.length * k)) w' (.sl 1 xs) (.slice (some ⟨w.heap.size, 0, none⟩) xs.length cap) := by
  have hsz : w.heap.size < w'.heap.size := (Array.getElem?_eq_some_iff.1 hg).1
  have hS : ∀ a, S a → addRow S w.heap.size (xs.length * k) a := fun a h => .inl h
  refine ⟨h.called hb hS ?_ ?_, .sl 1 xs _ cap k u (by omega) (fun h => by omega) (fun h => by cases h) hc hm hk hone ?_ ?_⟩
  · intro a ha hs
    rcases hs with hs | ⟨hs, _⟩
    · exact hs
    · omega
  · intro a hs
    rcases hs with hs | ⟨hs, _, h3⟩
    · exact ⟨Nat.lt_of_lt_of_le (h.slt a hs).1 hb.size, (h.slt a hs).2⟩
    · exact ⟨by omega, h3⟩
  · intro i j x p hx hp
    have hi := (List.getElem?_eq_some_iff.1 hx).1
    have hj : j < k := by
      have := (List.getElem?_eq_some_iff.1 hp).1
      have := hk x (List.mem_of_getElem? hx)
      omega
    have hlt : i * k + j < xs.length * k := by
      have : (i + 1) * k ≤ xs.length * k := Nat.mul_le_mul_right _ hi
      rw [Nat.add_mul] at this
      omega
    refine ⟨_, rfl, .inr ⟨?_, ?_, ?_⟩, ?_⟩
    · rw [Addr.add_lit]
    · rw [Addr.add_lit]; simpa using hlt
    · rw [Addr.add_lit]
    · rw [Addr.add_lit, Nat.zero_add]
      unfold World.cell?
      rw [hg]
      simpa using (hcur i j x p hx hp).1
  · intro i j x p hx hp
    exact (hcur i j x p hx hp).2.mono hS fun a ha => hb.cell (h.slt a ha).1
end
end Go.Proofs.YtgagnohelibaoaaDoor
