import Derived.WalkKit
import Derived.KernelRfl
import Derived.Orders
import Derived.Below
import Derived.Lib.Hide
import Derived.Laws.BytesArg
import Derived.Lib.ConvBytes
import Derived.WalkSpells
import Derived.Laws.IdiomStrings
import Derived.Lib.BufferRead
import Derived.Laws.StructEq
import Derived.DeepKeys
import Derived.Laws.OwnMore
import Derived.ChangeSlices
import Derived.WideShapes
import Derived.ProofKit
/-! Values without memory: what a value in memory is read as, and how that stays while memory grows. -/
set_option linter.unusedSimpArgs false
set_option linter.unusedVariables false
namespace Go.Proofs.YtgagnohelibaoaaDoor
open Go.RowKit

/-- A value by what it is: a slice is the list of its elements' cells (and a token: 0 it is nil, 1 none, from 2 on the right to append), a pointer into a box of the call's own names the box. -/
inductive PV where
  | undef
  | bool (b : Bool)
  | int (k : IntKind) (n : Int)
  | str (l : List UInt8)
  | lit (x : Value)
  | sl (t : Nat) (xs : List (List PV))
  | ptr (nm off : Nat)
  | iptr (cs : List PV)
  | clo (f : Fn) (first cap : List PV)
  | agg (cs : List PV)
  | tup (cs : List PV)
  /-- n elements of k cells each of a box, from cell off on, with room for m. -/
  | bs (nm off k n m : Nat)
  /-- A map of the call's own. -/
  | mp (nm : Nat)
  deriving Inhabited

/-- What no box and no token is needed for: S are the cells that stay as they are for good. -/
inductive CRel (S : Addr → Prop) (w : World) : PV → Value → Prop
  | undef (v : Value) : CRel S w .undef v
  | bool (b : Bool) : CRel S w (.bool b) (.bool b)
  | int (k : IntKind) (n : Int) : CRel S w (.int k n) (.int k n)
  | str (l : List UInt8) : CRel S w (.str l) (.string ⟨l.toArray⟩)
  | lit (x : Value) : CRel S w (.lit x) x
  | sl (t : Nat) (xs : List (List PV)) (A : Option Addr) (c k : Nat) (u : Nat → Nat → Value) (ht : t < 2) (h0 : t = 0 → A = none) (hn : A = none → xs = [] ∧ c = 0) (hc : xs.length ≤ c) (hm : c ≤ maxLen)
      (hk : ∀ x ∈ xs, x.length = k) (hone : ∀ i j, (u i j).oneCell' = true)
      (hcell : ∀ (i j : Nat) x p, xs[i]? = some x → x[j]? = some p → ∃ ad, A = some ad ∧ S (ad.add (i * k + j)) ∧ w.cell? (ad.add (i * k + j)) = some (u i j))
      (hrel : ∀ (i j : Nat) x p, xs[i]? = some x → x[j]? = some p → CRel S w p (u i j)) : CRel S w (.sl t xs) (.slice A xs.length c)
  | iptr (cs : List PV) (ad : Addr) (u : Nat → Value) (hone : ∀ j, (u j).oneCell' = true) (hcell : ∀ (j : Nat) p, cs[j]? = some p → S (ad.add j) ∧ w.cell? (ad.add j) = some (u j))
      (hrel : ∀ (j : Nat) p, cs[j]? = some p → CRel S w p (u j)) : CRel S w (.iptr cs) (.pointer (some ad))
  | clo (f : Fn) (fst cap : List PV) (fs cs : Array Value) (h1 : fs.size = fst.length) (h2 : cs.size = cap.length) (r1 : ∀ (i : Nat) p, fst[i]? = some p → CRel S w p (fs.getD i undef))
      (r2 : ∀ (i : Nat) p, cap[i]? = some p → CRel S w p (cs.getD i undef)) : CRel S w (.clo f fst cap) (.func f fs cs)
  | agg (cs : List PV) (arr : Array Value) (hs : arr.size = cs.length) (h : ∀ (i : Nat) p, cs[i]? = some p → CRel S w p (arr.getD i undef)) : CRel S w (.agg cs) (.agg arr)
  | tup (cs : List PV) (arr : Array Value) (hs : arr.size = cs.length) (h : ∀ (i : Nat) p, cs[i]? = some p → CRel S w p (arr.getD i undef)) : CRel S w (.tup cs) (.tuple arr)

theorem CRel.mono {S S' : Addr → Prop} {w w' : World} {p : PV} {v : Value} (h : CRel S w p v) (hS : ∀ a, S a → S' a) (hw : ∀ a, S a → w'.cell? a = w.cell? a) : CRel S' w' p v := by
  induction h with
  | undef v => exact .undef v
  | bool b => exact .bool b
  | int k n => exact .int k n
  | str l => exact .str l
  | lit x => exact .lit x
  | sl t xs A c k u ht h0 hn hc hm hk hone hcell hrel ih =>
    exact .sl t xs A c k u ht h0 hn hc hm hk hone (fun i j x p hx hp => let ⟨ad, h1, h2, h3⟩ := hcell i j x p hx hp; ⟨ad, h1, hS _ h2, (hw _ h2).trans h3⟩) ih
  | iptr cs ad u hone hcell hrel ih => exact .iptr cs ad u hone (fun j p hp => ⟨hS _ (hcell j p hp).1, (hw _ (hcell j p hp).1).trans (hcell j p hp).2⟩) ih
  | clo f fst cap fs cs h1 h2 r1 r2 i1 i2 => exact .clo f fst cap fs cs h1 h2 i1 i2
  | agg cs arr hs h ih => exact .agg cs arr hs ih
  | tup cs arr hs h ih => exact .tup cs arr hs ih

/-- With boxes and tokens, whose values μ tells; D are the names that are met. -/
inductive Rel (S : Addr → Prop) (μ : Nat → Value) (D : Nat → Prop) (w : World) : PV → Value → Prop
  | c {p : PV} {v : Value} (h : CRel S w p v) : Rel S μ D w p v
  | tok (t : Nat) (xs : List (List PV)) (v : Value) (h2 : 2 ≤ t) (hx : D t) (hv : v = μ t) (h : CRel S w (.sl 1 xs) v) : Rel S μ D w (.sl t xs) v
  | ptr (nm off g : Nat) (hx : D nm) (hg : μ nm = .pointer (some ⟨g, 0, none⟩)) : Rel S μ D w (.ptr nm off) (.pointer (some ⟨g, off, none⟩))
  | clo (f : Fn) (fst cap : List PV) (fs cs : Array Value) (h1 : fs.size = fst.length) (h2 : cs.size = cap.length) (r1 : ∀ (i : Nat) p, fst[i]? = some p → Rel S μ D w p (fs.getD i undef))
      (r2 : ∀ (i : Nat) p, cap[i]? = some p → Rel S μ D w p (cs.getD i undef)) : Rel S μ D w (.clo f fst cap) (.func f fs cs)
  | agg (cs : List PV) (arr : Array Value) (hs : arr.size = cs.length) (h : ∀ (i : Nat) p, cs[i]? = some p → Rel S μ D w p (arr.getD i undef)) : Rel S μ D w (.agg cs) (.agg arr)
  | tup (cs : List PV) (arr : Array Value) (hs : arr.size = cs.length) (h : ∀ (i : Nat) p, cs[i]? = some p → Rel S μ D w p (arr.getD i undef)) : Rel S μ D w (.tup cs) (.tuple arr)
  | bs (nm off k n m g o c : Nat) (hx : D nm) (hg : μ nm = .pointer (some ⟨g, 0, none⟩)) (ho : 0 < m → o = off) (hn : n ≤ m) (hm : m ≤ c) (hc : c ≤ maxLen) : Rel S μ D w (.bs nm off k n m) (.slice (some ⟨g, o, none⟩) n c)
  | mp (nm g : Nat) (hx : D nm) (hg : μ nm = .map (some g)) : Rel S μ D w (.mp nm) (.map (some g))

theorem Rel.mono {S S' : Addr → Prop} {μ μ' : Nat → Value} {D D' : Nat → Prop} {w w' : World} {p : PV} {v : Value} (h : Rel S μ D w p v) (hS : ∀ a, S a → S' a) (hw : ∀ a, S a → w'.cell? a = w.cell? a)
    (hx : ∀ m, D m → D' m) (hμ : ∀ m, D m → μ' m = μ m) : Rel S' μ' D' w' p v := by
  induction h with
  | c h => exact .c (h.mono hS hw)
  | tok t xs v h2 hx' hv h => exact .tok t xs v h2 (hx t hx') (hv.trans (hμ t hx').symm) (h.mono hS hw)
  | ptr nm off g hx' hg => exact .ptr nm off g (hx nm hx') ((hμ nm hx').trans hg)
  | clo f fst cap fs cs h1 h2 r1 r2 i1 i2 => exact .clo f fst cap fs cs h1 h2 i1 i2
  | agg cs arr hs h ih => exact .agg cs arr hs ih
  | tup cs arr hs h ih => exact .tup cs arr hs ih
  | bs nm off k n m g o c hx' hg ho hn hm hc => exact .bs nm off k n m g o c (hx nm hx') ((hμ nm hx').trans hg) ho hn hm hc
  | mp nm g hx' hg => exact .mp nm g (hx nm hx') ((hμ nm hx').trans hg)

/-- A cell's value without box and token. -/
def stripC : PV → Option PV
  | .sl t xs => some (.sl 1 xs)
  | .ptr _ _ => none
  | .bs _ _ _ _ _ => none
  | .mp _ => none
  | .clo _ _ _ => none
  | .agg _ => none
  | .tup _ => none
  | p => some p
def stripL : List PV → Option (List PV)
  | [] => some []
  | p :: ps => match stripC p with
    | none => none
    | some q => match stripL ps with
      | none => none
      | some qs => some (q :: qs)
/-- A value without box and token. -/
def strip1 : PV → Option PV
  | .agg cs => (stripL cs).map .agg
  | .clo f a b => match stripL a, stripL b with
    | some x, some y => some (.clo f x y)
    | _, _ => none
  | p => stripC p
def strip1L : List PV → Option (List PV)
  | [] => some []
  | p :: ps => match strip1 p with
    | none => none
    | some q => match strip1L ps with
      | none => none
      | some qs => some (q :: qs)
def strip : PV → Option PV
  | .tup cs => (strip1L cs).map .tup
  | p => strip1 p

theorem CRel.dead {S : Addr → Prop} {w : World} {t : Nat} {xs : List (List PV)} {v : Value} (h : CRel S w (.sl t xs) v) : CRel S w (.sl 1 xs) v := by
  cases h with
  | sl _ _ A c k u ht h0 hn hc hm hk hone hcell hrel => exact .sl 1 xs A c k u (by omega) (fun h => by omega) hn hc hm hk hone hcell hrel
theorem rel_stripC {S : Addr → Prop} {μ : Nat → Value} {D : Nat → Prop} {w : World} {p q : PV} {v : Value} (h : Rel S μ D w p v) (hs : stripC p = some q) : CRel S w q v := by
  cases p with
  | sl t xs =>
    simp only [stripC] at hs
    cases hs
    cases h with
    | c h => exact h.dead
    | tok _ _ _ _ _ _ h => exact h
  | ptr nm off => simp only [stripC] at hs; cases hs
  | bs nm off k n m => simp only [stripC] at hs; cases hs
  | mp nm => simp only [stripC] at hs; cases hs
  | clo f a b => simp only [stripC] at hs; cases hs
  | agg cs => simp only [stripC] at hs; cases hs
  | tup cs => simp only [stripC] at hs; cases hs
  | _ =>
    simp only [stripC] at hs
    cases hs
    cases h with
    | c h => exact h
theorem stripL_get : ∀ {ps qs : List PV}, stripL ps = some qs → ps.length = qs.length ∧ ∀ (i : Nat) q, qs[i]? = some q → ∃ p, ps[i]? = some p ∧ stripC p = some q
  | [], qs, h => by cases h; exact ⟨rfl, fun i q h => by simp at h⟩
  | p :: ps, qs, h => by
    unfold stripL at h
    cases h1 : stripC p with
    | none => rw [h1] at h; cases h
    | some q =>
      cases h2 : stripL ps with
      | none => rw [h1, h2] at h; cases h
      | some qs' =>
        rw [h1, h2] at h
        cases h
        obtain ⟨hl, hg⟩ := stripL_get h2
        refine ⟨by simp [hl], fun i q' hi => ?_⟩
        cases i with
        | zero => simp at hi; subst hi; exact ⟨p, rfl, h1⟩
        | succ i => simpa using hg i q' (by simpa using hi)
theorem crel_stripC {S : Addr → Prop} {w : World} {p q : PV} {v : Value} (h : CRel S w p v) (hs : stripC p = some q) : CRel S w q v := rel_stripC (Rel.c (μ := fun _ => v) (D := fun _ => True) h) hs
theorem getL {ps qs : List PV} (hl : ps.length = qs.length) {i : Nat} {q : PV} (hi : qs[i]? = some q) : ∃ p, ps[i]? = some p := ⟨ps[i]'(by have := (List.getElem?_eq_some_iff.1 hi).1; omega), by simp⟩
theorem rel_strip1 {S : Addr → Prop} {μ : Nat → Value} {D : Nat → Prop} {w : World} {p q : PV} {v : Value} (h : Rel S μ D w p v) (hs : strip1 p = some q) : CRel S w q v := by
  cases p with
  | agg cs =>
    simp only [strip1, Option.map_eq_some_iff] at hs
    obtain ⟨qs, hq, rfl⟩ := hs
    obtain ⟨hl, hg⟩ := stripL_get hq
    cases h with
    | c h =>
      cases h with
      | agg _ arr hs h => exact .agg qs arr (by omega) fun i q hi => let ⟨p, hp, hpq⟩ := hg i q hi; crel_stripC (h i p hp) hpq
    | agg _ arr hs h => exact .agg qs arr (by omega) fun i q hi => let ⟨p, hp, hpq⟩ := hg i q hi; rel_stripC (h i p hp) hpq
  | clo f a b =>
    simp only [strip1] at hs
    split at hs
    · rename_i x y hx hy
      cases hs
      obtain ⟨hl, hg⟩ := stripL_get hx
      obtain ⟨hl', hg'⟩ := stripL_get hy
      cases h with
      | c h =>
        cases h with
        | clo _ _ _ fs cs h1 h2 r1 r2 => exact .clo f x y fs cs (by omega) (by omega) (fun i q hi => let ⟨p, hp, hpq⟩ := hg i q hi; crel_stripC (r1 i p hp) hpq) (fun i q hi => let ⟨p, hp, hpq⟩ := hg' i q hi; crel_stripC (r2 i p hp) hpq)
      | clo _ _ _ fs cs h1 h2 r1 r2 => exact .clo f x y fs cs (by omega) (by omega) (fun i q hi => let ⟨p, hp, hpq⟩ := hg i q hi; rel_stripC (r1 i p hp) hpq) (fun i q hi => let ⟨p, hp, hpq⟩ := hg' i q hi; rel_stripC (r2 i p hp) hpq)
    · cases hs
  | _ => exact rel_stripC h hs
theorem strip1L_get : ∀ {ps qs : List PV}, strip1L ps = some qs → ps.length = qs.length ∧ ∀ (i : Nat) q, qs[i]? = some q → ∃ p, ps[i]? = some p ∧ strip1 p = some q
  | [], qs, h => by cases h; exact ⟨rfl, fun i q h => by simp at h⟩
  | p :: ps, qs, h => by
    unfold strip1L at h
    cases h1 : strip1 p with
    | none => rw [h1] at h; cases h
    | some q =>
      cases h2 : strip1L ps with
      | none => rw [h1, h2] at h; cases h
      | some qs' =>
        rw [h1, h2] at h
        cases h
        obtain ⟨hl, hg⟩ := strip1L_get h2
        refine ⟨by simp [hl], fun i q' hi => ?_⟩
        cases i with
        | zero => simp at hi; subst hi; exact ⟨p, rfl, h1⟩
        | succ i => simpa using hg i q' (by simpa using hi)
theorem rel_strip {S : Addr → Prop} {μ : Nat → Value} {D : Nat → Prop} {w : World} {p q : PV} {v : Value} (h : Rel S μ D w p v) (hs : strip p = some q) : CRel S w q v := by
  cases p with
  | tup cs =>
    simp only [strip, Option.map_eq_some_iff] at hs
    obtain ⟨qs, hq, rfl⟩ := hs
    obtain ⟨hl, hg⟩ := strip1L_get hq
    cases h with
    | c h =>
      cases h with
      | tup _ arr hs h => exact .tup qs arr (by omega) fun i q hi => let ⟨p, hp, hpq⟩ := hg i q hi; rel_strip1 (Rel.c (μ := μ) (D := D) (h i p hp)) hpq
    | tup _ arr hs h => exact .tup qs arr (by omega) fun i q hi => let ⟨p, hp, hpq⟩ := hg i q hi; rel_strip1 (h i p hp) hpq
  | _ => exact rel_strip1 h hs
end Go.Proofs.YtgagnohelibaoaaDoor
