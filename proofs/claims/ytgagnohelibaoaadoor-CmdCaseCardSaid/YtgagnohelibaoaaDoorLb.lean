import Derived.Test.YtgagnohelibaoaaDoorProg
import Derived.Test.YtgagnohelibaoaaDoorTab
import Derived.Test.YtgagnohelibaoaaDoorN
import Derived.WalkKit
import Derived.KernelRfl
import Derived.Below
import Derived.Lib.Hide
import Derived.Laws.BytesArg
import Derived.Lib.ConvBytes
import Derived.WalkSpells
import Derived.Laws.IdiomStrings
import Derived.Lib.BufferRead
import Derived.Laws.OwnMore
import Derived.ChangeSlices
import Derived.WideShapes
import Derived.ProofKit
/-! Words and lemmas for reading rows of cells, in no program's sight: rows of cells that stay as memory grows. -/
set_option linter.unusedSimpArgs false
set_option linter.unusedVariables false
namespace Go.Proofs.YtgagnohelibaoaaDoor
open Go.RowKit

/-- From address A on the cells are vs. -/
def Row (w : World) (A : Option Addr) (vs : List Value) : Prop := ∀ i v, vs[i]? = some v → ∃ ad, A = some ad ∧ w.cell? (ad.add i) = some v
theorem Row.nil (w : World) (A : Option Addr) : Row w A [] := fun i v h => by simp at h
theorem cell_ext {w w' : World} (hb : Below w.heap.size w w') {a : Addr} {v : Value} (h : w.cell? a = some v) : w'.cell? a = some v :=
  (hb.cell (World.block_lt_of_cell? w a h)).trans h
theorem Row.ext {w w' : World} {A : Option Addr} {vs : List Value} (h : Row w A vs) (hb : Below w.heap.size w w') : Row w' A vs :=
  fun i v hi => let ⟨ad, e, hc⟩ := h i v hi; ⟨ad, e, cell_ext hb hc⟩
theorem below_alloc0 (w : World) (o : Obj) : Below w.heap.size w (w.alloc o) := (Below.refl _ _).alloc (Nat.le_refl _) o
theorem below_drew0 (w : World) : Below w.heap.size w w.drew := (Below.refl _ _).drew
theorem Row.alloc {w : World} {A : Option Addr} {vs : List Value} (h : Row w A vs) (o : Obj) : Row (w.alloc o) A vs := h.ext (below_alloc0 w o)
theorem Row.drew {w : World} {A : Option Addr} {vs : List Value} (h : Row w A vs) : Row w.drew A vs := h.ext (below_drew0 w)
theorem Row.take {w : World} {A : Option Addr} {vs : List Value} (h : Row w A vs) (n : Nat) : Row w A (vs.take n) := fun i v hi => by
  rw [List.getElem?_take] at hi
  split at hi
  · exact h i v hi
  · cases hi
/-- A row of the call's own is read as any. -/
theorem Row.of_own {w : World} {B : Nat} {e : TypeId} {size : Nat} {v : Value} {n : Nat} {xs : List Value} (h : w.ownsRow B e size v n xs) :
    ∃ A cap, v = .slice A n cap ∧ n ≤ cap ∧ cap ≤ maxLen ∧ Row w A xs ∧ (A = none → n = 0 ∧ cap = 0) := by
  have hh := h
  obtain ⟨hl, hn | ⟨g, cap, cur, rfl, hb, hg, hnc, hcm, hcs, ht⟩⟩ := h
  · obtain ⟨rfl, rfl⟩ := hn
    have : xs = [] := List.eq_nil_of_length_eq_zero (by simpa using hl)
    subst this
    exact ⟨none, 0, rfl, Nat.le_refl _, Nat.zero_le _, Row.nil _ _, fun _ => ⟨rfl, rfl⟩⟩
  · exact ⟨some ⟨g, 0, none⟩, cap, rfl, hnc, hcm, fun i v hi => ⟨_, rfl, hh.cells rfl i v hi⟩, fun h => by cases h⟩
theorem Below.then {B : Nat} {w w1 w2 : World} (h : Below B w w1) (k : Below w1.heap.size w1 w2) (hB : B ≤ w1.heap.size) : Below B w w2 := h.trans (k.mono hB)
theorem ext_trans {w w1 w2 : World} (h : Below w.heap.size w w1) (k : Below w1.heap.size w1 w2) : Below w.heap.size w w2 := h.trans (k.mono h.size)

theorem row_newM (w : World) (C : List Value) (t : TypeId) (fr : Nat × Nat) : Row (w.alloc (.cells C.toArray t fr)) (some ⟨w.heap.size, 0, none⟩) C := fun i v hi => by
  refine ⟨_, rfl, ?_⟩
  have hadd : (⟨w.heap.size, 0, none⟩ : Addr).add i = ⟨w.heap.size, i, none⟩ := by unfold Addr.add; split <;> simp_all
  rw [hadd]
  have hg : (w.alloc (.cells C.toArray t fr)).heap[w.heap.size]? = some (.cells C.toArray t fr) := by
    show (w.heap.push (.cells C.toArray t fr))[w.heap.size]? = _
    simp
  unfold World.cell?
  rw [hg]
  simpa using hi
theorem row_new (w : World) (C : List Value) (t : TypeId) : Row (w.alloc (.cells C.toArray t)) (some ⟨w.heap.size, 0, none⟩) C := row_newM w C t (0, 0)
/-- A byte as a value. -/
def bV (c : UInt8) : Value := .int .u8 c.toNat
def bVs (l : List UInt8) : List Value := l.map bV
theorem bVs_len (l : List UInt8) : (bVs l).length = l.length := by simp [bVs]
theorem bVs_app (l m : List UInt8) : bVs (l ++ m) = bVs l ++ bVs m := by simp [bVs]
theorem bVs_get (l : List UInt8) (i : Nat) : (bVs l)[i]? = (l[i]?).map bV := by simp [bVs]
theorem bVs_take (l : List UInt8) (n : Nat) : (bVs l).take n = bVs (l.take n) := by simp [bVs, List.map_take]
theorem bVs_one (l : List UInt8) : ∀ u ∈ bVs l, u.oneCell' = true := by
  intro u hu
  obtain ⟨x, _, rfl⟩ := List.mem_map.1 hu
  rfl

/-- The string that bytes become. -/
theorem run_bytes_string {P : Program} (w : World) (src dst e : TypeId) (A : Option Addr) (c : Nat) (l : List UInt8) (hs : P.underlying src = some (.slice e)) (he : P.underlying e = some (.int .u8)) (hd : P.underlying dst = some .string)
    (h : Row w A (bVs l)) : (convert src dst (.slice A l.length c)).run P w = .ok (.string ⟨l.toArray⟩) w := by
  cases A with
  | none =>
    have : l = [] := by
      cases l with
      | nil => rfl
      | cons x l => obtain ⟨ad, h1, _⟩ := h 0 (bV x) rfl; cases h1
    subst this
    exact Go.Lib.run_convert_nil_bytes w src dst e c hs he hd
  | some a =>
    refine run_convert_bytes_back w src dst e a c l hs he hd fun j hj => ?_
    obtain ⟨ad, h1, h2⟩ := h j (bV l[j]) (by rw [bVs_get, List.getElem?_eq_getElem hj]; rfl)
    cases h1
    exact h2

theorem run_bytes_string_n {P : Program} (w : World) (src dst e : TypeId) (A : Option Addr) (n c : Nat) (l : List UInt8) (hs : P.underlying src = some (.slice e)) (he : P.underlying e = some (.int .u8)) (hd : P.underlying dst = some .string)
    (hn : l.length = n) (h : Row w A (bVs l)) : (convert src dst (.slice A n c)).run P w = .ok (.string ⟨l.toArray⟩) w := by
  subst hn; exact run_bytes_string w src dst e A c l hs he hd h
/-- append onto a row of the call's own, whatever the source. -/
theorem run_append_row {P : Program} (w : World) (B : Nat) (t ty e : TypeId) (i : TypeInfo) (z : Value) (size bytes : Nat) (ht : P.underlying t = some (.slice e)) (hi : P.info? e = some i) (hz : i.zero = some z)
    (hsize : i.size = size) (hby : i.bytes = bytes) (hzs : z.cells.size = size) (hsz : 0 < size)
    (v : Value) (n : Nat) (xs : List Value) (hown : w.ownsRow B e size v n xs)
    (A : Option Addr) (m c : Nat) (news : List Value) (hA : A = none → m = 0 ∧ c = 0) (hl : news.length = m * size) (hr : Row w A news) (h1 : ∀ u ∈ news, u.oneCell' = true)
    (h63 : n + m ≤ maxLen) (hbytes : (n + m) * bytes ≤ 140737488355328) (hbase : B ≤ w.heap.size) :
    ∃ v' w', (Builtin.append_ #[t, t] ty #[v, .slice A m c]).run P w = .ok v' w' ∧ w'.ownsRow B e size v' (n + m) (xs ++ news) ∧ w.grownBy w' v.ownBlock ∧
      (v' = .slice none 0 0 ↔ v = .slice none 0 0 ∧ m = 0) := by
  cases A with
  | some a =>
    exact run_append_own (P := P) w B t ty e i z size bytes ht hi hz hsize hby hzs hsz v n xs hown a m c news hl (fun j u hu => by
      obtain ⟨ad, e, hc⟩ := hr j u hu
      cases e
      exact hc) h1 h63 hbytes hbase
  | none =>
    obtain ⟨rfl, rfl⟩ := hA rfl
    have hn : news = [] := List.eq_nil_of_length_eq_zero (by simpa using hl)
    subst hn
    exact ⟨v, w, run_append_owned_none (P := P) (w := w) B t ty e i size ht hi v n xs hown, by simpa using hown, ⟨rfl, rfl, rfl, Nat.le_refl _, fun _ _ _ => rfl⟩, by simp⟩

/-- append onto a row of the call's own, as a law for the walk. -/
theorem wpList_append_row {P : Program} {w : World} {ops : Array Oper} {rest : List Oper} {o : Oper} {a : Act} {Q : Exit → Act → World → Prop} (hgd : o.guard = none) (s x : Operand) (t : TypeId)
    (ho : o.op = .call { callee := .builtin .append, args := #[s, x], argTypes := #[t, t] })
    (B : Nat) (e : TypeId) (size bytes : Nat) (z : Value) (ht : P.underlying t = some (.slice e)) (hi : (P.info? e).map (fun i => (i.zero, i.size, i.bytes)) = some (some z, size, bytes)) (hzs : z.cells.size = size) (hsz : 0 < size)
    (v : Value) (n : Nat) (xs : List Value) (hs : a.eval s = v) (hown : w.ownsRow B e size v n xs)
    (A : Option Addr) (m c : Nat) (news : List Value) (hx : a.eval x = .slice A m c) (hA : A = none → m = 0 ∧ c = 0) (hl : news.length = m * size) (hr : Row w A news) (h1 : ∀ u ∈ news, u.oneCell' = true)
    (h63 : n + m ≤ maxLen) (hbytes : (n + m) * bytes ≤ 140737488355328) (hbase : B ≤ w.heap.size)
    (h : ∀ v' w', w'.ownsRow B e size v' (n + m) (xs ++ news) → w.grownBy w' v.ownBlock → (v' = .slice none 0 0 ↔ v = .slice none 0 0 ∧ m = 0) → wpList P ops Q rest (a.put o.dst v') w') : wpList P ops Q (o :: rest) a w :=
  wpList_plain hgd fun K hK => by
    obtain ⟨i, hi0, hz, hsize, hby⟩ := info_parts hi
    obtain ⟨v', w', hrun, h2, h3, h4⟩ := run_append_row (P := P) w B t o.type e i z size bytes ht hi0 hz hsize hby hzs hsz v n xs hown A m c news hA hl hr h1 h63 hbytes hbase
    unfold Oper.wp execOp
    simp only [ho, resolve, invoke, builtin, Sem.run_bind, Sem.run_pure, Result.andThen_ok, List.map_toArray, List.map_cons, List.map_nil, hs, hx, hrun]
    exact hK _ _ (h v' w' h2 h3 h4)
/-- A row stays where what is written lies below it. -/
theorem own_kept_ge {w w' : World} {B : Nat} {e : TypeId} {size : Nat} {v : Value} {n : Nat} {xs : List Value} {r : Option Nat} (h : w.ownsRow B e size v n xs) (hg : w.grownBy w' r) (hr : ∀ k, r = some k → k < B) : w'.ownsRow B e size v n xs :=
  h.kept hg (by
    cases hv : v.ownBlock with
    | none => exact .inl rfl
    | some k => refine .inr fun hk => ?_; have := (h.lt _ hv).1; have := hr k hk.symm; omega)
/-- A row stays where its block does. -/
theorem own_block {w w' : World} {B : Nat} {e : TypeId} {size : Nat} {v : Value} {n : Nat} {xs : List Value} (h : w.ownsRow B e size v n xs) (hb : ∀ k, v.ownBlock = some k → w'.heap[k]? = w.heap[k]?) : w'.ownsRow B e size v n xs := by
  refine ⟨h.1, ?_⟩
  rcases h.2 with hn | ⟨g, cap, cur, rfl, hb', hgg, rest⟩
  · exact .inl hn
  · exact .inr ⟨g, cap, cur, rfl, hb', (hb g rfl).trans hgg, rest⟩
/-- append as one step of a region. -/
theorem step_append_row {P : Program} {w : World} {o : Oper} {a : Act} {K : Act → World → Prop} {Q : Exit → Act → World → Prop} (hgd : o.guard = none) (s x : Operand) (t : TypeId)
    (ho : o.op = .call { callee := .builtin .append, args := #[s, x], argTypes := #[t, t] })
    (B : Nat) (e : TypeId) (size bytes : Nat) (z : Value) (ht : P.underlying t = some (.slice e)) (hi : (P.info? e).map (fun i => (i.zero, i.size, i.bytes)) = some (some z, size, bytes)) (hzs : z.cells.size = size) (hsz : 0 < size)
    (v : Value) (n : Nat) (xs : List Value) (hs : a.eval s = v) (hown : w.ownsRow B e size v n xs)
    (A : Option Addr) (m c : Nat) (news : List Value) (hx : a.eval x = .slice A m c) (hA : A = none → m = 0 ∧ c = 0) (hl : news.length = m * size) (hr : Row w A news) (h1 : ∀ u ∈ news, u.oneCell' = true)
    (h63 : n + m ≤ maxLen) (hbytes : (n + m) * bytes ≤ 140737488355328) (hbase : B ≤ w.heap.size)
    (h : ∀ v' w', w'.ownsRow B e size v' (n + m) (xs ++ news) → w.grownBy w' v.ownBlock → (v' = .slice none 0 0 ↔ v = .slice none 0 0 ∧ m = 0) → K (a.put o.dst v') w') : o.wp P a w K Q := by
  obtain ⟨i, hi0, hz, hsize, hby⟩ := info_parts hi
  obtain ⟨v', w', hrun, h2, h3, h4⟩ := run_append_row (P := P) w B t o.type e i z size bytes ht hi0 hz hsize hby hzs hsz v n xs hown A m c news hA hl hr h1 h63 hbytes hbase
  unfold Oper.wp execOp
  simp only [ho, resolve, invoke, builtin, Sem.run_bind, Sem.run_pure, Result.andThen_ok, List.map_toArray, List.map_cons, List.map_nil, hs, hx, hrun]
  exact h v' w' h2 h3 h4
theorem below_of_grown {B : Nat} {w w1 w2 : World} {row : Option Nat} (h : Below B w w1) (hg : w1.grownBy w2 row) (hB : B ≤ w1.heap.size) (hr : ∀ k, row = some k → B ≤ k) : Below B w w2 := h.grown hg hB hr
theorem own_mono {w : World} {B B' : Nat} {e : TypeId} {size : Nat} {v : Value} {n : Nat} {xs : List Value} (h : w.ownsRow B' e size v n xs) (hB : B ≤ B') : w.ownsRow B e size v n xs := by
  obtain ⟨hl, hn | ⟨g, cap, cur, rfl, hb, hg⟩⟩ := h
  · exact ⟨hl, .inl hn⟩
  · exact ⟨hl, .inr ⟨g, cap, cur, rfl, Nat.le_trans hB hb, hg⟩⟩
/-- A row of the call's own stays while memory grows below nothing of it. -/
theorem own_ext {w w' : World} {B : Nat} {e : TypeId} {size : Nat} {v : Value} {n : Nat} {xs : List Value} (h : w.ownsRow B e size v n xs) (hb : Below w.heap.size w w') : w'.ownsRow B e size v n xs :=
  h.kept (row := none) ⟨hb.os, hb.tape, hb.output, hb.size, fun i hi _ => hb.block i hi⟩ (by cases v.ownBlock <;> simp)
open Go.ChangeShapes Go.WideShapes in
/-- A slice of bytes that came in. -/
theorem bytes_of_trod {H : Type} {enc : TypeId × Value → H} {P : Program} {W : World} {base : Nat} {sp : Nat → Bool} {held : Bool} {t e : TypeId} {v : Value} {d : DataW H} {ps : List MemPlace}
    (ht : P.underlying t = some (.slice e)) (he : P.underlying e = some (.int .u8)) (hc : P.cellsOf e = 1) (hok : Value.okWide P W .any base t v) (h : DataW.Trod enc P W 0 sp held t v d ps) :
    ∃ A c l, v = .slice A (List.length (α := UInt8) l) c ∧ l.length ≤ c ∧ c ≤ maxLen ∧ (A = none → l.length = 0 ∧ c = 0) ∧ Row W A (bVs l) := by
  obtain ⟨A, len, cap, rfl⟩ := okWide_slice ht hok
  obtain ⟨fuel, hf⟩ := h
  rcases open_ints ht he hc hf with ⟨hcs, _⟩ | ⟨x, l, c, zs, hcs, _, hl, hm, hz, _, hcell, hwz⟩
  · simp [Value.cells] at hcs
    obtain ⟨rfl, rfl, rfl⟩ := hcs
    exact ⟨none, 0, [], rfl, Nat.le_refl _, Nat.zero_le _, fun _ => ⟨rfl, rfl⟩, Row.nil _ _⟩
  · simp [Value.cells] at hcs
    obtain ⟨rfl, rfl, rfl⟩ := hcs
    have hlz : len ≤ zs.length := by
      rw [hz]; split
      · exact hl
      · exact Nat.le_refl _
    refine ⟨some x, cap, (zs.take len).map fun z => UInt8.ofNat z.toNat, by simp [hlz], by simpa [hlz] using hl, hm, (fun h => by cases h), fun i v hi => ⟨x, rfl, ?_⟩⟩
    rw [bVs_get, List.getElem?_map, List.getElem?_take] at hi
    split at hi
    · rename_i hil
      have hiz : i < zs.length := by omega
      rw [List.getElem?_eq_getElem hiz] at hi
      simp only [Option.map_some, Option.some.injEq] at hi
      rw [hcell i hiz, ← hi]
      have hw := hwz zs[i] (List.getElem_mem hiz)
      have hr : 0 ≤ zs[i] ∧ zs[i] ≤ 255 := by simp [Lit.wf] at hw; exact hw
      simp only [bV, List.getD_eq_getElem?_getD, List.getElem?_eq_getElem hiz, Option.getD_some]
      congr 2
      have : (UInt8.ofNat zs[i].toNat).toNat = zs[i].toNat := by simp [UInt8.toNat_ofNat']; omega
      rw [this]
      omega
    · cases hi
theorem own_type_ne {w : World} {b b' : Nat} {e e' : TypeId} {s s' n n' : Nat} {v v' : Value} {xs xs' : List Value} (h : w.ownsRow b e s v n xs) (h' : w.ownsRow b' e' s' v' n' xs') (hne : e ≠ e') : v.ownBlock = none ∨ v.ownBlock ≠ v'.ownBlock := by
  rcases h.2 with ⟨rfl, _⟩ | ⟨g, cap, cur, rfl, _, hh, _⟩
  · exact .inl rfl
  · refine .inr fun hk => ?_
    rcases h'.2 with ⟨rfl, _⟩ | ⟨g', cap', cur', rfl, _, hh', _⟩
    · simp [Value.ownBlock] at hk
    · have : g = g' := by simpa [Value.ownBlock] using hk
      subst this
      rw [hh] at hh'
      injection hh' with hh'
      injection hh' with _ ht _
      exact hne ht
/-- A row of another type of elements stays where a row grows. -/
theorem own_apart {w w' : World} {b b' : Nat} {e e' : TypeId} {s s' n n' : Nat} {v v' : Value} {xs xs' : List Value} (h : w.ownsRow b e s v n xs) (h' : w.ownsRow b' e' s' v' n' xs') (hne : e ≠ e') (hg : w.grownBy w' v'.ownBlock) : w'.ownsRow b e s v n xs :=
  h.kept hg (own_type_ne h h' hne)
theorem row_new_at (w : World) (C : List Value) (t : TypeId) (g : Nat) (hg : g = w.heap.size) : Row (w.alloc (.cells C.toArray t)) (some ⟨g, 0, none⟩) C := by subst hg; exact row_new w C t
/-- A slice literal is a row of the call's own. -/
theorem own_new (w : World) (C : List Value) (t : TypeId) (B n size g : Nat) (hg : g = w.heap.size) (hB : B ≤ w.heap.size) (hl : C.length = n * size) (hm : n ≤ maxLen) : (w.alloc (.cells C.toArray t)).ownsRow B t size (.slice (some ⟨g, 0, none⟩) n n) n C := by
  subst hg
  refine ⟨hl, .inr ⟨w.heap.size, n, C.toArray, rfl, hB, ?_, Nat.le_refl _, hm, by simpa using hl, by rw [← hl]; simp⟩⟩
  show (w.heap.push (.cells C.toArray t))[w.heap.size]? = _
  simp
/-- What lay below reads as before. -/
theorem bcell {W w1 : World} (hb : Below W.heap.size W w1) : (∀ b o, b < W.heap.size → w1.cell? ⟨b, o, none⟩ = W.cell? ⟨b, o, none⟩) ∧ (∀ b o, b < W.heap.size → w1.frozen? ⟨b, o, none⟩ = W.frozen? ⟨b, o, none⟩) :=
  ⟨fun b o h => hb.cell (p := ⟨b, o, none⟩) h, fun b o h => hb.frozen (p := ⟨b, o, none⟩) h⟩
/-- A block whose first cells are these, none frozen. -/
structure Box (w : World) (g : Nat) (C : List Value) : Prop where
  lt : g < w.heap.size
  at_ : ∀ (i : Nat) v, C[i]? = some v → w.cell? ⟨g, i, none⟩ = some v
  free : ∀ j, w.frozen? ⟨g, j, none⟩ = false
theorem Box.ext {w w' : World} {g : Nat} {C : List Value} (h : Box w g C) (hb : Below w.heap.size w w') : Box w' g C :=
  ⟨Nat.lt_of_lt_of_le h.lt hb.size, fun i v hi => (hb.cell (p := ⟨g, i, none⟩) h.lt).trans (h.at_ i v hi), fun j => (hb.frozen (p := ⟨g, j, none⟩) h.lt).trans (h.free j)⟩
theorem Box.block {w w' : World} {g : Nat} {C : List Value} (h : Box w g C) (hh : w'.heap[g]? = w.heap[g]?) : Box w' g C := by
  refine ⟨?_, fun i v hi => ?_, fun j => ?_⟩
  · have := h.lt
    rw [Array.getElem?_eq_getElem this] at hh
    exact (Array.getElem?_eq_some_iff.1 hh).1
  · rw [World.cell?_of_block (w := w) (w' := w') (a := ⟨g, i, none⟩) hh]; exact h.at_ i v hi
  · rw [World.frozen?_of_block (w := w) (w' := w') (a := ⟨g, j, none⟩) hh]; exact h.free j
theorem Box.new (w : World) (C : List Value) (t : TypeId) (g : Nat) (hg : g = w.heap.size) : Box (w.alloc (.cells C.toArray t)) g C := by
  subst hg
  have hh : (w.alloc (.cells C.toArray t)).heap[w.heap.size]? = some (.cells C.toArray t) := by
    show (w.heap.push (.cells C.toArray t))[w.heap.size]? = _
    simp
  refine ⟨by simp, fun i v hi => ?_, fun j => ?_⟩
  · unfold World.cell?
    rw [hh]
    simpa using hi
  · unfold World.frozen?
    rw [hh]
    simp
theorem Box.alloc {w : World} {g : Nat} {C : List Value} (h : Box w g C) (o : Obj) : Box (w.alloc o) g C := h.ext (below_alloc0 w o)
theorem Box.setOther {w : World} {g : Nat} {C : List Value} (h : Box w g C) (a : Addr) (u : Value) (hne : g ≠ a.block) : Box (w.setCell a u) g C := by
  have hh : (w.setCell a u).heap[g]? = w.heap[g]? := Below.heap_setCell w a u g hne
  refine ⟨by have := h.lt; simpa [World.setCell] using this, fun i v hi => ?_, fun j => ?_⟩
  · rw [World.cell?_of_block (w := w) (w' := w.setCell a u) (a := ⟨g, i, none⟩) hh]; exact h.at_ i v hi
  · rw [World.frozen?_of_block (w := w) (w' := w.setCell a u) (a := ⟨g, j, none⟩) hh]; exact h.free j
theorem Box.one {w : World} {g : Nat} {x0 : Value} (h : Box w g [x0]) : w.cell? ⟨g, 0, none⟩ = some x0 ∧ w.frozen? ⟨g, 0, none⟩ = false := ⟨h.at_ 0 _ rfl, h.free 0⟩
theorem Box.two {w : World} {g : Nat} {x0 x1 : Value} (h : Box w g [x0, x1]) : w.cell? ⟨g, 0, none⟩ = some x0 ∧ w.cell? ⟨g, 1, none⟩ = some x1 ∧ ∀ j, w.frozen? ⟨g, j, none⟩ = false := ⟨h.at_ 0 _ rfl, h.at_ 1 _ rfl, h.free⟩
theorem Box.three {w : World} {g : Nat} {x0 x1 x2 : Value} (h : Box w g [x0, x1, x2]) : w.cell? ⟨g, 0, none⟩ = some x0 ∧ w.cell? ⟨g, 1, none⟩ = some x1 ∧ w.cell? ⟨g, 2, none⟩ = some x2 ∧ ∀ j, w.frozen? ⟨g, j, none⟩ = false := ⟨h.at_ 0 _ rfl, h.at_ 1 _ rfl, h.at_ 2 _ rfl, h.free⟩
theorem Box.four {w : World} {g : Nat} {x0 x1 x2 x3 : Value} (h : Box w g [x0, x1, x2, x3]) : w.cell? ⟨g, 0, none⟩ = some x0 ∧ w.cell? ⟨g, 1, none⟩ = some x1 ∧ w.cell? ⟨g, 2, none⟩ = some x2 ∧ w.cell? ⟨g, 3, none⟩ = some x3 ∧ ∀ j, w.frozen? ⟨g, j, none⟩ = false := ⟨h.at_ 0 _ rfl, h.at_ 1 _ rfl, h.at_ 2 _ rfl, h.at_ 3 _ rfl, h.free⟩
/-- A row above a block stays where that block alone is written. -/
theorem own_grown {w w' : World} {B g : Nat} {e : TypeId} {size : Nat} {v : Value} {n : Nat} {xs : List Value} (h : w.ownsRow B e size v n xs) (hg : w.grownBy w' (some g)) (hB : g < B) : w'.ownsRow B e size v n xs :=
  h.kept hg (by
    cases hv : v.ownBlock with
    | none => exact .inl rfl
    | some k => refine .inr fun hk => ?_; cases hk; have := (h.lt _ hv).1; omega)
theorem Box.grown {w w' : World} {g k : Nat} {C : List Value} (h : Box w g C) (hg : w.grownBy w' (some k)) (hne : g ≠ k) : Box w' g C := by
  have hh : w'.heap[g]? = w.heap[g]? := hg.block g h.lt (fun e => hne (Option.some.inj e))
  refine ⟨Nat.lt_of_lt_of_le h.lt hg.size, fun i v hi => ?_, fun j => ?_⟩
  · rw [World.cell?_of_block (w := w) (w' := w') (a := ⟨g, i, none⟩) hh]; exact h.at_ i v hi
  · rw [World.frozen?_of_block (w := w) (w' := w') (a := ⟨g, j, none⟩) hh]; exact h.free j
theorem setCell_grown (w : World) (a : Addr) (v : Value) : w.grownBy (w.setCell a v) (some a.block) :=
  ⟨rfl, rfl, rfl, by simp [World.setCell], fun k _ hk => Below.heap_setCell w a v k (fun e => hk (by rw [e]))⟩
theorem Box.set {w : World} {g : Nat} {C : List Value} (h : Box w g C) (i : Nat) (v : Value) (hi : i < C.length) : Box (w.setCell ⟨g, i, none⟩ v) g (C.set i v) := by
  have h0 := h.at_ i C[i] (by simp [hi])
  refine ⟨by simpa [World.setCell] using h.lt, fun j u hj => ?_, fun j => ?_⟩
  · by_cases hji : j = i
    · subst hji
      have : u = v := by simpa [List.getElem?_set, hi] using hj.symm
      subst this
      have hlt := h.lt
      unfold World.cell? at h0 ⊢
      unfold World.setCell
      cases ho : w.heap[g]? with
      | none => rw [ho] at h0; cases h0
      | some o =>
        rw [ho] at h0
        cases o with
        | cells c e fr =>
          have hs : j < c.size := by
            have := h0
            simp at this
            exact (Array.getElem?_eq_some_iff.1 this).1
          simp [Array.getElem?_modify, ho, hs]
        | _ => simp at h0
    · rw [List.getElem?_set_ne (Ne.symm hji)] at hj
      have h1 := h.at_ j u hj
      unfold World.cell? at h1 ⊢
      unfold World.setCell
      cases ho : w.heap[g]? with
      | none => rw [ho] at h1; cases h1
      | some o =>
        rw [ho] at h1
        cases o with
        | cells c e fr =>
          simp at h1
          simp [Array.getElem?_modify, ho, Array.getElem?_setIfInBounds_ne (Ne.symm hji), h1]
        | _ => simp at h1
  · have h1 := h.free j
    unfold World.frozen? at h1 ⊢
    unfold World.setCell
    cases ho : w.heap[g]? with
    | none => simp [Array.getElem?_modify, ho]
    | some o =>
      rw [ho] at h1
      cases o with
      | cells c e fr => simpa [Array.getElem?_modify, ho] using h1
      | _ => simp [Array.getElem?_modify, ho]
theorem results_tmp3 {fn : Func} {t u x : Tmp} (h : fn.results = #[.tmp t, .tmp u, .tmp x]) (tmps : Array Value) (P : Program) (w : World) :
    (results fn tmps).run P w = .ok (.tuple #[tmps.getD t undef, tmps.getD u undef, tmps.getD x undef]) w := by
  simp [results, h]
theorem results_tmp4 {fn : Func} {t u x y : Tmp} (h : fn.results = #[.tmp t, .tmp u, .tmp x, .tmp y]) (tmps : Array Value) (P : Program) (w : World) :
    (results fn tmps).run P w = .ok (.tuple #[tmps.getD t undef, tmps.getD u undef, tmps.getD x undef, tmps.getD y undef]) w := by
  simp [results, h]
theorem own_ge {w : World} {B : Nat} {e : TypeId} {size : Nat} {v : Value} {n : Nat} {xs : List Value} (h : w.ownsRow B e size v n xs) : ∀ k, v.ownBlock = some k → B ≤ k := fun k hk => (h.lt k hk).1
/-- The cells of a row of the call's own. -/
def ownS (v : Value) (m : Nat) : Addr → Prop := fun a => a.spot = none ∧ v.ownBlock = some a.block ∧ a.off < m
theorem own_rel {S : Addr → Prop} {w : World} {B : Nat} {e : TypeId} {k n : Nat} {v : Value} {vs : List Value} {xs : List (List PV)} {u : Nat → Nat → Value} (h : w.ownsRow B e k v n vs) (hn : xs.length = n) (hk : ∀ x ∈ xs, x.length = k) (hone : ∀ i j, (u i j).oneCell' = true)
    (hv : ∀ (i j : Nat) x p, xs[i]? = some x → x[j]? = some p → vs[i * k + j]? = some (u i j) ∧ CRel S w p (u i j)) : CRel (fun a => S a ∨ ownS v (n * k) a) w (.sl 1 xs) v := by
  subst hn
  have hh := h
  rcases h.2 with ⟨rfl, h0⟩ | ⟨g, cap, cur, rfl, hb, hg, hnc, hcm, hcs, ht⟩
  · have : xs = [] := List.eq_nil_of_length_eq_zero h0
    subst this
    exact .sl 1 [] none 0 k u (by omega) (fun h => by cases h) (fun _ => ⟨rfl, rfl⟩) (Nat.le_refl _) (Nat.zero_le _) (fun x h => by cases h) hone (fun i j x p h => by simp at h) (fun i j x p h => by simp at h)
  · refine .sl 1 xs (some ⟨g, 0, none⟩) cap k u (by omega) (fun h => by cases h) (fun h => by cases h) hnc hcm hk hone (fun i j x p hx hp => ?_) (fun i j x p hx hp => ((hv i j x p hx hp).2).mono (fun a h => .inl h) (fun a _ => rfl))
    have hi : i < xs.length := (List.getElem?_eq_some_iff.1 hx).1
    have hj : j < k := by
      have := (List.getElem?_eq_some_iff.1 hp).1
      rw [hk x (List.mem_of_getElem? hx)] at this
      exact this
    have hlt : i * k + j < xs.length * k := by
      have h1 : (i + 1) * k ≤ xs.length * k := Nat.mul_le_mul_right _ hi
      rw [Nat.add_mul, Nat.one_mul] at h1
      omega
    refine ⟨_, rfl, .inr ?_, ?_⟩
    · rw [Addr.add_lit]
      exact ⟨rfl, rfl, by simpa using hlt⟩
    · exact hh.cells rfl _ _ (hv i j x p hx hp).1
/-- Bytes, as they lie in memory. -/
theorem bytes_rel {S : Addr → Prop} {w : World} {t : Nat} {l : List UInt8} {v : Value} (h : CRel S w (.sl t (l.map byteE)) v) : ∃ A c, v = .slice A l.length c ∧ l.length ≤ c ∧ c ≤ maxLen ∧ (A = none → l.length = 0 ∧ c = 0) ∧ Row w A (bVs l) := by
  cases h with
  | sl _ _ A c k u ht h0 hn hc hm hk hone hcell hrel =>
    rw [List.length_map] at hc ⊢
    refine ⟨A, c, rfl, hc, hm, fun hA => ⟨by have := (hn hA).1; simpa using this, (hn hA).2⟩, fun i x hi => ?_⟩
    rw [bVs_get] at hi
    cases hl : l[i]? with
    | none => rw [hl] at hi; cases hi
    | some b =>
      rw [hl] at hi
      simp only [Option.map_some, Option.some.injEq] at hi
      subst hi
      have hx : (l.map byteE)[i]? = some (byteE b) := by rw [List.getElem?_map, hl]; rfl
      have hk1 : 1 = k := hk _ (List.mem_of_getElem? hx)
      subst hk1
      obtain ⟨ad, e, _, h2⟩ := hcell i 0 _ _ hx rfl
      have h3 := hrel i 0 _ _ hx rfl
      refine ⟨ad, e, ?_⟩
      rw [Nat.mul_one, Nat.add_zero] at h2
      rw [h2, plainV_eq (p := .int .u8 (b.toNat : Int)) rfl h3]
      rfl
theorem own_bytes {S : Addr → Prop} {w : World} {B : Nat} {e : TypeId} {v : Value} {l : List UInt8} (h : w.ownsRow B e 1 v l.length (bVs l)) : CRel (fun a => S a ∨ ownS v l.length a) w (.sl 1 (l.map byteE)) v := by
  have := own_rel (S := S) (xs := l.map byteE) (u := fun i _ => bV (l.getD i 0)) h (by simp) (fun x hx => by obtain ⟨c, _, rfl⟩ := List.mem_map.1 hx; rfl) (fun _ _ => rfl) (fun i j x p hx hp => by
    rw [List.getElem?_map] at hx
    cases hl : l[i]? with
    | none => rw [hl] at hx; cases hx
    | some b =>
      rw [hl] at hx
      simp only [Option.map_some, Option.some.injEq] at hx
      subst hx
      have hj : j = 0 := by have := (List.getElem?_eq_some_iff.1 hp).1; simp [byteE] at this; exact this
      subst hj
      simp [byteE] at hp
      subst hp
      refine ⟨by rw [Nat.mul_one, Nat.add_zero, bVs_get, hl, List.getD_eq_getElem?_getD, hl]; rfl, ?_⟩
      rw [List.getD_eq_getElem?_getD, hl]
      exact .int _ _)
  rw [Nat.mul_one] at this
  exact this
/-- A function that hands a row of its own on. -/
theorem row_ends {S : Addr → Prop} {w w' : World} {e : TypeId} {k n : Nat} {v : Value} {vs : List Value} {r : PV} (hS : ∀ a, S a → a.block < w.heap.size ∧ a.spot = none) (h : w'.ownsRow w.heap.size e k v n vs) (hb : Below w.heap.size w w') (m : Nat) (hr : CRel (fun a => S a ∨ ownS v m a) w' r v) :
    ∃ v' S' μ, Ending.returned v = .returned v' ∧ Below w.heap.size w w' ∧ (∀ a : Addr, a.block < w.heap.size → (S' a ↔ S a)) ∧ (∀ a, S' a → a.block < w'.heap.size ∧ a.spot = none) ∧ Rel S' μ (fun m => m < 8) w' r v' ∧ (([] : List (Nat × TypeId × Nat × Nat)) = [] → CRel S' w' r v') ∧
      (∀ t e k n, (t, e, k, n) ∈ ([] : List (Nat × TypeId × Nat × Nat)) → t < 8 ∧ HRel w.heap.size S' μ (fun m => m < 8) w' t (.tok e k n)) ∧
      (∀ x ∈ ([] : List (Nat × TypeId × Nat × Nat)), ∀ y ∈ ([] : List (Nat × TypeId × Nat × Nat)), x ≠ y → ∀ g, blk (μ x.1) = some g → blk (μ y.1) ≠ some g) := by
  refine ⟨v, (fun a => S a ∨ ownS v m a), fun _ => undef, rfl, hb, fun a ha => ⟨fun hs => hs.elim id fun ho => ?_, .inl⟩, fun a hs => ?_, .c hr, fun _ => hr, fun t e k n h => (by cases h), fun x h => (by cases h)⟩
  · have := (h.lt _ ho.2.1).1
    omega
  · rcases hs with hs | ho
    · exact ⟨Nat.lt_of_lt_of_le (hS a hs).1 hb.size, (hS a hs).2⟩
    · exact ⟨(h.lt _ ho.2.1).2, ho.1⟩
end Go.Proofs.YtgagnohelibaoaaDoor
