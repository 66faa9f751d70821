import Derived.Test.YthjdhobmedodkaaProg
import Derived.Test.YthjdhobmedodkaaReg
import Derived.WalkKit
import Derived.KernelRfl
import Derived.Below
import Derived.Lib.Hide
import Derived.Laws.BytesArg
import Derived.Lib.ConvBytes
import Derived.WalkSpells
import Derived.Laws.IdiomStrings
import Derived.Lib.BufferRead
import Derived.Laws.OwnMore
import Derived.ChangeSlices
import Derived.WideShapes
import Derived.ProofKit
/-! Words and lemmas for reading rows of cells, in no program's sight: rows of cells that stay as memory grows. -/
namespace Go.Proofs.Ythjdhobmedodkaa
open Go.RowKit

/-- From address A on the cells are vs. -/
def Row (w : World) (A : Option Addr) (vs : List Value) : Prop := ∀ i v, vs[i]? = some v → ∃ ad, A = some ad ∧ w.cell? (ad.add i) = some v
theorem Row.nil (w : World) (A : Option Addr) : Row w A [] := fun i v h => by simp at h
theorem cell_ext {w w' : World} (hb : Below w.heap.size w w') {a : Addr} {v : Value} (h : w.cell? a = some v) : w'.cell? a = some v :=
  (hb.cell (World.block_lt_of_cell? w a h)).trans h
theorem Row.ext {w w' : World} {A : Option Addr} {vs : List Value} (h : Row w A vs) (hb : Below w.heap.size w w') : Row w' A vs :=
  fun i v hi => let ⟨ad, e, hc⟩ := h i v hi; ⟨ad, e, cell_ext hb hc⟩
theorem below_alloc0 (w : World) (o : Obj) : Below w.heap.size w (w.alloc o) := (Below.refl _ _).alloc (Nat.le_refl _) o
theorem below_drew0 (w : World) : Below w.heap.size w w.drew := (Below.refl _ _).drew
theorem Row.alloc {w : World} {A : Option Addr} {vs : List Value} (h : Row w A vs) (o : Obj) : Row (w.alloc o) A vs := h.ext (below_alloc0 w o)
theorem Row.drew {w : World} {A : Option Addr} {vs : List Value} (h : Row w A vs) : Row w.drew A vs := h.ext (below_drew0 w)
theorem Row.take {w : World} {A : Option Addr} {vs : List Value} (h : Row w A vs) (n : Nat) : Row w A (vs.take n) := fun i v hi => by
  rw [List.getElem?_take] at hi
  split at hi
  · exact h i v hi
  · cases hi
/-- A row of the call's own is read as any. -/
theorem Row.of_own {w : World} {B : Nat} {e : TypeId} {size : Nat} {v : Value} {n : Nat} {xs : List Value} (h : w.ownsRow B e size v n xs) :
    ∃ A cap, v = .slice A n cap ∧ n ≤ cap ∧ cap ≤ maxLen ∧ Row w A xs ∧ (A = none → n = 0 ∧ cap = 0) := by
  have hh := h
  obtain ⟨hl, hn | ⟨g, cap, cur, rfl, hb, hg, hnc, hcm, hcs, ht⟩⟩ := h
  · obtain ⟨rfl, rfl⟩ := hn
    have : xs = [] := List.eq_nil_of_length_eq_zero (by simpa using hl)
    subst this
    exact ⟨none, 0, rfl, Nat.le_refl _, Nat.zero_le _, Row.nil _ _, fun _ => ⟨rfl, rfl⟩⟩
  · exact ⟨some ⟨g, 0, none⟩, cap, rfl, hnc, hcm, fun i v hi => ⟨_, rfl, hh.cells rfl i v hi⟩, fun h => by cases h⟩
theorem Below.then {B : Nat} {w w1 w2 : World} (h : Below B w w1) (k : Below w1.heap.size w1 w2) (hB : B ≤ w1.heap.size) : Below B w w2 := h.trans (k.mono hB)
theorem ext_trans {w w1 w2 : World} (h : Below w.heap.size w w1) (k : Below w1.heap.size w1 w2) : Below w.heap.size w w2 := h.trans (k.mono h.size)

theorem row_newM (w : World) (C : List Value) (t : TypeId) (fr : Nat × Nat) : Row (w.alloc (.cells C.toArray t fr)) (some ⟨w.heap.size, 0, none⟩) C := fun i v hi => by
  refine ⟨_, rfl, ?_⟩
  have hadd : (⟨w.heap.size, 0, none⟩ : Addr).add i = ⟨w.heap.size, i, none⟩ := by unfold Addr.add; split <;> simp_all
  rw [hadd]
  have hg : (w.alloc (.cells C.toArray t fr)).heap[w.heap.size]? = some (.cells C.toArray t fr) := by
    show (w.heap.push (.cells C.toArray t fr))[w.heap.size]? = _
    simp
  unfold World.cell?
  rw [hg]
  simpa using hi
theorem row_new (w : World) (C : List Value) (t : TypeId) : Row (w.alloc (.cells C.toArray t)) (some ⟨w.heap.size, 0, none⟩) C := row_newM w C t (0, 0)
/-- A byte as a value. -/
def bV (c : UInt8) : Value := .int .u8 c.toNat
def bVs (l : List UInt8) : List Value := l.map bV
theorem bVs_len (l : List UInt8) : (bVs l).length = l.length := by simp [bVs]
theorem bVs_app (l m : List UInt8) : bVs (l ++ m) = bVs l ++ bVs m := by simp [bVs]
theorem bVs_get (l : List UInt8) (i : Nat) : (bVs l)[i]? = (l[i]?).map bV := by simp [bVs]
theorem bVs_take (l : List UInt8) (n : Nat) : (bVs l).take n = bVs (l.take n) := by simp [bVs, List.map_take]
theorem bVs_one (l : List UInt8) : ∀ u ∈ bVs l, u.oneCell' = true := by
  intro u hu
  obtain ⟨x, _, rfl⟩ := List.mem_map.1 hu
  rfl

/-- The string that bytes become. -/
theorem run_bytes_string {P : Program} (w : World) (src dst e : TypeId) (A : Option Addr) (c : Nat) (l : List UInt8) (hs : P.underlying src = some (.slice e)) (he : P.underlying e = some (.int .u8)) (hd : P.underlying dst = some .string)
    (h : Row w A (bVs l)) : (convert src dst (.slice A l.length c)).run P w = .ok (.string ⟨l.toArray⟩) w := by
  cases A with
  | none =>
    have : l = [] := by
      cases l with
      | nil => rfl
      | cons x l => obtain ⟨ad, h1, _⟩ := h 0 (bV x) rfl; cases h1
    subst this
    exact Go.Lib.run_convert_nil_bytes w src dst e c hs he hd
  | some a =>
    refine run_convert_bytes_back w src dst e a c l hs he hd fun j hj => ?_
    obtain ⟨ad, h1, h2⟩ := h j (bV l[j]) (by rw [bVs_get, List.getElem?_eq_getElem hj]; rfl)
    cases h1
    exact h2

theorem run_bytes_string_n {P : Program} (w : World) (src dst e : TypeId) (A : Option Addr) (n c : Nat) (l : List UInt8) (hs : P.underlying src = some (.slice e)) (he : P.underlying e = some (.int .u8)) (hd : P.underlying dst = some .string)
    (hn : l.length = n) (h : Row w A (bVs l)) : (convert src dst (.slice A n c)).run P w = .ok (.string ⟨l.toArray⟩) w := by
  subst hn; exact run_bytes_string w src dst e A c l hs he hd h
/-- append onto a row of the call's own, whatever the source. -/
theorem run_append_row {P : Program} (w : World) (B : Nat) (t ty e : TypeId) (i : TypeInfo) (z : Value) (size bytes : Nat) (ht : P.underlying t = some (.slice e)) (hi : P.info? e = some i) (hz : i.zero = some z)
    (hsize : i.size = size) (hby : i.bytes = bytes) (hzs : z.cells.size = size) (hsz : 0 < size)
    (v : Value) (n : Nat) (xs : List Value) (hown : w.ownsRow B e size v n xs)
    (A : Option Addr) (m c : Nat) (news : List Value) (hA : A = none → m = 0 ∧ c = 0) (hl : news.length = m * size) (hr : Row w A news) (h1 : ∀ u ∈ news, u.oneCell' = true)
    (h63 : n + m ≤ maxLen) (hbytes : (n + m) * bytes ≤ 140737488355328) (hbase : B ≤ w.heap.size) :
    ∃ v' w', (Builtin.append_ #[t, t] ty #[v, .slice A m c]).run P w = .ok v' w' ∧ w'.ownsRow B e size v' (n + m) (xs ++ news) ∧ w.grownBy w' v.ownBlock ∧
      (v' = .slice none 0 0 ↔ v = .slice none 0 0 ∧ m = 0) := by
  cases A with
  | some a =>
    exact run_append_own (P := P) w B t ty e i z size bytes ht hi hz hsize hby hzs hsz v n xs hown a m c news hl (fun j u hu => by
      obtain ⟨ad, e, hc⟩ := hr j u hu
      cases e
      exact hc) h1 h63 hbytes hbase
  | none =>
    obtain ⟨rfl, rfl⟩ := hA rfl
    have hn : news = [] := List.eq_nil_of_length_eq_zero (by simpa using hl)
    subst hn
    exact ⟨v, w, run_append_owned_none (P := P) (w := w) B t ty e i size ht hi v n xs hown, by simpa using hown, ⟨rfl, rfl, rfl, Nat.le_refl _, fun _ _ _ => rfl⟩, by simp⟩

/-- append onto a row of the call's own, as a law for the walk. -/
theorem wpList_append_row {P : Program} {w : World} {ops : Array Oper} {rest : List Oper} {o : Oper} {a : Act} {Q : Exit → Act → World → Prop} (hgd : o.guard = none) (s x : Operand) (t : TypeId)
    (ho : o.op = .call { callee := .builtin .append, args := #[s, x], argTypes := #[t, t] })
    (B : Nat) (e : TypeId) (size bytes : Nat) (z : Value) (ht : P.underlying t = some (.slice e)) (hi : (P.info? e).map (fun i => (i.zero, i.size, i.bytes)) = some (some z, size, bytes)) (hzs : z.cells.size = size) (hsz : 0 < size)
    (v : Value) (n : Nat) (xs : List Value) (hs : a.eval s = v) (hown : w.ownsRow B e size v n xs)
    (A : Option Addr) (m c : Nat) (news : List Value) (hx : a.eval x = .slice A m c) (hA : A = none → m = 0 ∧ c = 0) (hl : news.length = m * size) (hr : Row w A news) (h1 : ∀ u ∈ news, u.oneCell' = true)
    (h63 : n + m ≤ maxLen) (hbytes : (n + m) * bytes ≤ 140737488355328) (hbase : B ≤ w.heap.size)
    (h : ∀ v' w', w'.ownsRow B e size v' (n + m) (xs ++ news) → w.grownBy w' v.ownBlock → (v' = .slice none 0 0 ↔ v = .slice none 0 0 ∧ m = 0) → wpList P ops Q rest (a.put o.dst v') w') : wpList P ops Q (o :: rest) a w :=
  wpList_plain hgd fun K hK => by
    obtain ⟨i, hi0, hz, hsize, hby⟩ := info_parts hi
    obtain ⟨v', w', hrun, h2, h3, h4⟩ := run_append_row (P := P) w B t o.type e i z size bytes ht hi0 hz hsize hby hzs hsz v n xs hown A m c news hA hl hr h1 h63 hbytes hbase
    unfold Oper.wp execOp
    simp only [ho, resolve, invoke, builtin, Sem.run_bind, Sem.run_pure, Result.andThen_ok, List.map_toArray, List.map_cons, List.map_nil, hs, hx, hrun]
    exact hK _ _ (h v' w' h2 h3 h4)
theorem below_of_grown {B : Nat} {w w1 w2 : World} {row : Option Nat} (h : Below B w w1) (hg : w1.grownBy w2 row) (hB : B ≤ w1.heap.size) (hr : ∀ k, row = some k → B ≤ k) : Below B w w2 := h.grown hg hB hr
theorem own_mono {w : World} {B B' : Nat} {e : TypeId} {size : Nat} {v : Value} {n : Nat} {xs : List Value} (h : w.ownsRow B' e size v n xs) (hB : B ≤ B') : w.ownsRow B e size v n xs := by
  obtain ⟨hl, hn | ⟨g, cap, cur, rfl, hb, hg⟩⟩ := h
  · exact ⟨hl, .inl hn⟩
  · exact ⟨hl, .inr ⟨g, cap, cur, rfl, Nat.le_trans hB hb, hg⟩⟩
/-- A row of the call's own stays while memory grows below nothing of it. -/
theorem own_ext {w w' : World} {B : Nat} {e : TypeId} {size : Nat} {v : Value} {n : Nat} {xs : List Value} (h : w.ownsRow B e size v n xs) (hb : Below w.heap.size w w') : w'.ownsRow B e size v n xs :=
  h.kept (row := none) ⟨hb.os, hb.tape, hb.output, hb.size, fun i hi _ => hb.block i hi⟩ (by cases v.ownBlock <;> simp)
open Go.ChangeShapes Go.WideShapes in
/-- A slice of bytes that came in. -/
theorem bytes_of_trod {H : Type} {enc : TypeId × Value → H} {P : Program} {W : World} {base : Nat} {sp : Nat → Bool} {held : Bool} {t e : TypeId} {v : Value} {d : DataW H} {ps : List MemPlace}
    (ht : P.underlying t = some (.slice e)) (he : P.underlying e = some (.int .u8)) (hc : P.cellsOf e = 1) (hok : Value.okWide P W .any base t v) (h : DataW.Trod enc P W 0 sp held t v d ps) :
    ∃ A c l, v = .slice A (List.length (α := UInt8) l) c ∧ l.length ≤ c ∧ c ≤ maxLen ∧ (A = none → l.length = 0 ∧ c = 0) ∧ Row W A (bVs l) := by
  obtain ⟨A, len, cap, rfl⟩ := okWide_slice ht hok
  obtain ⟨fuel, hf⟩ := h
  rcases open_ints ht he hc hf with ⟨hcs, _⟩ | ⟨x, l, c, zs, hcs, _, hl, hm, hz, _, hcell, hwz⟩
  · simp [Value.cells] at hcs
    obtain ⟨rfl, rfl, rfl⟩ := hcs
    exact ⟨none, 0, [], rfl, Nat.le_refl _, Nat.zero_le _, fun _ => ⟨rfl, rfl⟩, Row.nil _ _⟩
  · simp [Value.cells] at hcs
    obtain ⟨rfl, rfl, rfl⟩ := hcs
    have hlz : len ≤ zs.length := by
      rw [hz]; split
      · exact hl
      · exact Nat.le_refl _
    refine ⟨some x, cap, (zs.take len).map fun z => UInt8.ofNat z.toNat, by simp [hlz], by simpa [hlz] using hl, hm, (fun h => by cases h), fun i v hi => ⟨x, rfl, ?_⟩⟩
    rw [bVs_get, List.getElem?_map, List.getElem?_take] at hi
    split at hi
    · rename_i hil
      have hiz : i < zs.length := by omega
      rw [List.getElem?_eq_getElem hiz] at hi
      simp only [Option.map_some, Option.some.injEq] at hi
      rw [hcell i hiz, ← hi]
      have hw := hwz zs[i] (List.getElem_mem hiz)
      have hr : 0 ≤ zs[i] ∧ zs[i] ≤ 255 := by simp [Lit.wf] at hw; exact hw
      simp only [bV, List.getD_eq_getElem?_getD, List.getElem?_eq_getElem hiz, Option.getD_some]
      congr 2
      have : (UInt8.ofNat zs[i].toNat).toNat = zs[i].toNat := by simp [UInt8.toNat_ofNat']; omega
      rw [this]
      omega
    · cases hi
theorem results_tmp3 {fn : Func} {t u x : Tmp} (h : fn.results = #[.tmp t, .tmp u, .tmp x]) (tmps : Array Value) (P : Program) (w : World) :
    (results fn tmps).run P w = .ok (.tuple #[tmps.getD t undef, tmps.getD u undef, tmps.getD x undef]) w := by
  simp [results, h]
theorem results_tmp4 {fn : Func} {t u x y : Tmp} (h : fn.results = #[.tmp t, .tmp u, .tmp x, .tmp y]) (tmps : Array Value) (P : Program) (w : World) :
    (results fn tmps).run P w = .ok (.tuple #[tmps.getD t undef, tmps.getD u undef, tmps.getD x undef, tmps.getD y undef]) w := by
  simp [results, h]
/-- It is a row of the call's own. -/
def ownF (B : Nat) (e : TypeId) (size n : Nat) (xs : List Value) : StF := ⟨fun v w => w.ownsRow B e size v n xs, fun _ _ _ hb h => own_ext h hb⟩
theorem own_ge {w : World} {B : Nat} {e : TypeId} {size : Nat} {v : Value} {n : Nat} {xs : List Value} (h : w.ownsRow B e size v n xs) : ∀ k, v.ownBlock = some k → B ≤ k := fun k hk => (h.lt k hk).1
end Go.Proofs.Ythjdhobmedodkaa
