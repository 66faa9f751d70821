import Derived.Orders
import Derived.Below
import Derived.Laws.AppendOwn
/-! A region that draws its order, each of whose operations lets memory grow alone: it suffices to say once, of each operation, what its value is like. -/
namespace Go.Proofs.Ythjdhobmedodkaa
open Go.RowKit

/-- What a value is like in a world: it stays so while memory grows. -/
def StF := { F : Value → World → Prop // ∀ v w w', Below w.heap.size w w' → F v w → F v w' }
/-- It is this value. -/
def eqF (c : Value) : StF := ⟨fun v _ => v = c, fun _ _ _ _ h => h⟩
theorem eqF_at (c : Value) (w : World) : (eqF c).1 c w := rfl
def trivF : StF := ⟨fun _ _ => True, fun _ _ _ _ h => h⟩

def depsB (o : Oper) : List Nat := o.after.toList.filterMap fun e => if Region.binds .any e then some e.on else none
def dstOf (ops : Array Oper) (i : Nat) : Option Tmp := (ops[i]?).bind (·.dst)
/-- Each operation writes a slot of its own, and waits for earlier ones alone. -/
def regionOk (ops : Array Oper) (sz : Nat) : Bool :=
  (List.range ops.size).all fun i => match ops[i]? with
    | none => false
    | some o => (depsB o).all (· < i) && match o.dst with
      | none => false
      | some d => d < sz && (List.range ops.size).all fun j => j == i || dstOf ops j != some d
/-- Nobody has written slot s when operation i comes up. -/
def cleanB (ops : Array Oper) (i s : Nat) : Bool :=
  (List.range ops.size).all fun k => k == i || dstOf ops k != some s || match ops[k]? with
    | none => true
    | some o => (depsB o).contains i

section
variable {P : Program} {ops : Array Oper} {Q : Exit → Act → World → Prop} {a0 : Act} {w0 : World} {Fs : List StF}

/-- What operation i finds. -/
def ReadsAt (ops : Array Oper) (Fs : List StF) (a0 : Act) (i : Nat) (a : Act) (w : World) : Prop :=
  (∀ j o, ops[i]? = some o → (depsB o).contains j = true → ∀ d, dstOf ops j = some d → ∃ v, a.tmps[d]? = some v ∧ (Fs.getD j trivF).1 v w) ∧
  ∀ s, cleanB ops i s = true → a.tmps[s]? = a0.tmps[s]?

structure InvR (ops : Array Oper) (Fs : List StF) (a0 : Act) (w0 : World) (listed : Array Bool) (a : Act) (w : World) : Prop where
  below : Below w0.heap.size w0 w
  defers : a.defers = a0.defers
  size : a.tmps.size = a0.tmps.size
  lsize : listed.size = ops.size
  closed : ∀ (i : Nat) o, listed[i]? = some true → ops[i]? = some o → ∀ j ∈ depsB o, listed[j]? = some true
  done : ∀ (i : Nat) d, listed[i]? = some true → dstOf ops i = some d → ∃ v, a.tmps[d]? = some v ∧ (Fs.getD i trivF).1 v w
  kept : ∀ s, (∀ i : Nat, listed[i]? = some true → dstOf ops i ≠ some s) → a.tmps[s]? = a0.tmps[s]?

theorem regionOk_at {sz : Nat} (h : regionOk ops sz = true) {i : Nat} {o : Oper} (ho : ops[i]? = some o) :
    (∀ j ∈ depsB o, j < i) ∧ ∃ d, o.dst = some d ∧ d < sz ∧ ∀ j, j ≠ i → dstOf ops j ≠ some d := by
  have hi : i < ops.size := (Array.getElem?_eq_some_iff.1 ho).1
  simp only [regionOk, List.all_eq_true, List.mem_range] at h
  have h1 := h i hi
  rw [ho] at h1
  simp only [Bool.and_eq_true, List.all_eq_true, decide_eq_true_eq] at h1
  refine ⟨h1.1, ?_⟩
  have h2 := h1.2
  cases hd : o.dst with
  | none => rw [hd] at h2; simp at h2
  | some d =>
    rw [hd] at h2
    simp only [Bool.and_eq_true, List.all_eq_true, decide_eq_true_eq, List.mem_range, Bool.or_eq_true, beq_iff_eq, bne_iff_ne] at h2
    refine ⟨d, rfl, h2.1, fun j hj hjd => ?_⟩
    have hjs : j < ops.size := by
      unfold dstOf at hjd
      rcases Nat.lt_or_ge j ops.size with h' | h'
      · exact h'
      · simp [Array.getElem?_eq_none h'] at hjd
    rcases h2.2 j hjs with h3 | h3
    · exact hj h3
    · exact h3 hjd

theorem InvR.reads {listed : Array Bool} {a : Act} {w : World} (h : InvR ops Fs a0 w0 listed a w) {i : Nat} (hr : i ∈ Region.ready .any ops listed) : ReadsAt ops Fs a0 i a w := by
  obtain ⟨hun, o, ho, hall⟩ := mem_ready.1 hr
  have hnot : listed[i]? ≠ some true := by
    intro hc
    rw [Array.getD_eq_getD_getElem?, hc] at hun
    cases hun
  refine ⟨fun j o' ho' hj d hd => ?_, fun s hs => h.kept s fun k hk hks => ?_⟩
  · rw [ho] at ho'
    cases ho'
    simp only [depsB, List.contains_iff_mem, List.mem_filterMap] at hj
    obtain ⟨e, he, hb⟩ := hj
    split at hb
    · rename_i hbd
      cases hb
      have := hall e (Array.mem_toList_iff.1 he) hbd
      refine h.done e.on d ?_ hd
      rw [Array.getD_eq_getD_getElem?] at this
      cases hl : listed[e.on]? with
      | none => rw [hl] at this; cases this
      | some b => rw [hl] at this; simp at this; rw [this]
    · cases hb
  · have hks' : k < ops.size := by
      unfold dstOf at hks
      rcases Nat.lt_or_ge k ops.size with h' | h'
      · exact h'
      · simp [Array.getElem?_eq_none h'] at hks
    simp only [cleanB, List.all_eq_true, List.mem_range] at hs
    have h1 := hs k hks'
    obtain ⟨ok, hok⟩ : ∃ ok, ops[k]? = some ok := ⟨_, Array.getElem?_eq_getElem hks'⟩
    rw [hok] at h1
    simp only [Bool.or_eq_true, beq_iff_eq, bne_iff_ne, List.contains_iff_mem] at h1
    rcases h1 with (h1 | h1) | h1
    · subst h1; exact hnot hk
    · exact h1 hks
    · exact hnot (h.closed k ok hk hok i h1)

theorem InvR.put {listed : Array Bool} {a : Act} {w w' : World} {v : Value} (h : InvR ops Fs a0 w0 listed a w) (hok : regionOk ops a0.tmps.size = true) {i : Nat} {o : Oper} (ho : ops[i]? = some o)
    (hr : i ∈ Region.ready .any ops listed) (hb : Below w.heap.size w w') (hF : (Fs.getD i trivF).1 v w') : InvR ops Fs a0 w0 (listed.setIfInBounds i true) (a.put o.dst v) w' := by
  obtain ⟨hdeps, d, hd, hds, hother⟩ := regionOk_at hok ho
  obtain ⟨hun, o', ho', hall⟩ := mem_ready.1 hr
  rw [ho] at ho'
  cases ho'
  have hi : i < ops.size := (Array.getElem?_eq_some_iff.1 ho).1
  have hput : a.put o.dst v = { a with tmps := a.tmps.setIfInBounds d v } := by rw [hd]; rfl
  have old : ∀ (j : Nat), j ≠ i → (listed.setIfInBounds i true)[j]? = listed[j]? := fun j hj => by rw [Array.getElem?_setIfInBounds_ne (Ne.symm hj)]
  rw [hput]
  refine ⟨h.below.trans (hb.mono h.below.size), h.defers, by simpa using h.size, by simpa using h.lsize, ?_, ?_, ?_⟩
  · intro k ok hk hok' j hj
    by_cases hki : k = i
    · subst hki
      rw [ho] at hok'
      cases hok'
      have hne : j ≠ k := Nat.ne_of_lt (hdeps j hj)
      rw [old j hne]
      simp only [depsB, List.mem_filterMap] at hj
      obtain ⟨e, he, hbb⟩ := hj
      split at hbb
      · rename_i hbd
        cases hbb
        have := hall e (Array.mem_toList_iff.1 he) hbd
        rw [Array.getD_eq_getD_getElem?] at this
        cases hl : listed[e.on]? with
        | none => rw [hl] at this; cases this
        | some b => rw [hl] at this; simp at this; rw [this]
      · cases hbb
    · rw [old k hki] at hk
      have h1 := h.closed k ok hk hok' j hj
      by_cases hji : j = i
      · subst hji
        have hl : j < listed.size := by rw [h.lsize]; exact hi
        simp [hl]
      · rw [old j hji]; exact h1
  · intro k dk hk hdk
    by_cases hki : k = i
    · subst hki
      have hdk' : dk = d := by
        unfold dstOf at hdk
        rw [ho] at hdk
        simp only [Option.bind_some] at hdk
        rw [hd] at hdk
        cases hdk
        rfl
      subst hdk'
      refine ⟨v, ?_, hF⟩
      have hs : dk < a.tmps.size := by rw [h.size]; exact hds
      simp [hs]
    · rw [old k hki] at hk
      obtain ⟨u, hu, hFu⟩ := h.done k dk hk hdk
      have hne : d ≠ dk := fun e => hother k hki (e ▸ hdk)
      refine ⟨u, ?_, (Fs.getD k trivF).2 _ _ _ hb hFu⟩
      show (a.tmps.setIfInBounds d v)[dk]? = some u
      rw [Array.getElem?_setIfInBounds_ne hne]
      exact hu
  · intro s hs
    have hne : d ≠ s := by
      intro e
      subst e
      have hl : i < listed.size := by rw [h.lsize]; exact hi
      exact hs i (by simp [hl]) (by unfold dstOf; rw [ho]; exact hd)
    show (a.tmps.setIfInBounds d v)[s]? = _
    rw [Array.getElem?_setIfInBounds_ne hne]
    refine h.kept s fun k hk => ?_
    by_cases hki : k = i
    · subst hki
      exfalso
      rw [Array.getD_eq_getD_getElem?, hk] at hun
      cases hun
    · exact hs k (by rw [old k hki]; exact hk)

/-- How many are still to come. -/
def toCome (listed : Array Bool) : Nat := (List.range listed.size).countP fun i => listed[i]? == some false
theorem toCome_zero {listed : Array Bool} (h : toCome listed = 0) {i : Nat} (hi : i < listed.size) : listed[i]? = some true := by
  unfold toCome at h
  rw [List.countP_eq_zero] at h
  have := h i (List.mem_range.2 hi)
  rw [Array.getElem?_eq_getElem hi] at this ⊢
  cases hb : listed[i]
  · rw [hb] at this; exact absurd rfl this
  · rfl
theorem toCome_set {listed : Array Bool} {i : Nat} (hi : listed[i]? = some false) : toCome (listed.setIfInBounds i true) < toCome listed := by
  unfold toCome
  have hlt : i < listed.size := (Array.getElem?_eq_some_iff.1 hi).1
  simp only [Array.size_setIfInBounds]
  have key : ∀ l : List Nat, i ∈ l → l.Nodup → l.countP (fun j => (listed.setIfInBounds i true)[j]? == some false) < l.countP (fun j => listed[j]? == some false) := by
    intro l hm hn
    induction l with
    | nil => cases hm
    | cons x l ih =>
      rw [List.countP_cons, List.countP_cons]
      rw [List.nodup_cons] at hn
      by_cases hx : x = i
      · subst hx
        have hle : l.countP (fun j => (listed.setIfInBounds x true)[j]? == some false) ≤ l.countP (fun j => listed[j]? == some false) := by
          refine List.countP_mono_left fun j hj hh => ?_
          have hne : j ≠ x := fun e => hn.1 (e ▸ hj)
          rwa [Array.getElem?_setIfInBounds_ne (Ne.symm hne)] at hh
        have h1 : ((listed.setIfInBounds x true)[x]? == some false) = false := by simp [hlt]
        have h2 : (listed[x]? == some false) = true := by rw [hi]; rfl
        rw [h1, h2]
        simp only [Bool.false_eq_true, if_false, if_true]
        omega
      · have h1 : ((listed.setIfInBounds i true)[x]? == some false) = (listed[x]? == some false) := by rw [Array.getElem?_setIfInBounds_ne (Ne.symm hx)]
        rw [h1]
        have := ih (by simpa [Ne.symm hx] using hm) hn.2
        omega
  exact key _ (List.mem_range.2 hlt) List.nodup_range

/-- Where not all have come up, one is ready. -/
theorem ready_ne {listed : Array Bool} {sz : Nat} (hok : regionOk ops sz = true) (hl : listed.size = ops.size) (h : toCome listed ≠ 0) : Region.ready .any ops listed ≠ [] := by
  unfold toCome at h
  have hex : ∃ i : Nat, listed[i]? = some false := by
    rw [Ne, List.countP_eq_zero] at h
    simp only [List.mem_range, beq_iff_eq, Classical.not_forall, Classical.not_not] at h
    obtain ⟨i, _, hi⟩ := h
    exact ⟨i, hi⟩
  obtain ⟨m, hm, hmin⟩ : ∃ m : Nat, listed[m]? = some false ∧ ∀ k, k < m → listed[k]? ≠ some false := by
    obtain ⟨i, hi⟩ := hex
    induction i using Nat.strongRecOn with
    | _ i ih =>
      by_cases hc : ∃ k, k < i ∧ listed[k]? = some false
      · obtain ⟨k, hk, hkf⟩ := hc
        exact ih k hk hkf
      · exact ⟨i, hi, fun k hk hkf => hc ⟨k, hk, hkf⟩⟩
  have hmlt : m < ops.size := by rw [← hl]; exact (Array.getElem?_eq_some_iff.1 hm).1
  obtain ⟨o, ho⟩ : ∃ o, ops[m]? = some o := ⟨_, Array.getElem?_eq_getElem hmlt⟩
  have hmem : m ∈ Region.ready .any ops listed := by
    rw [mem_ready]
    refine ⟨by rw [Array.getD_eq_getD_getElem?, hm]; rfl, o, ho, fun e he hb => ?_⟩
    have hlt : e.on < m := (regionOk_at hok ho).1 e.on (by
      simp only [depsB, List.mem_filterMap]
      exact ⟨e, Array.mem_toList_iff.2 he, by rw [if_pos hb]⟩)
    have hne := hmin e.on hlt
    have hlt' : e.on < listed.size := by rw [hl]; omega
    rw [Array.getD_eq_getD_getElem?, Array.getElem?_eq_getElem hlt'] at *
    cases hb' : listed[e.on]
    · rw [hb'] at hne; exact absurd rfl hne
    · rfl
  intro hnil
  rw [hnil] at hmem
  cases hmem

theorem wpAny_mono_region (hok : regionOk ops a0.tmps.size = true)
    (hstep : ∀ i o, ops[i]? = some o → ∀ a w, Below w0.heap.size w0 w → a.defers = a0.defers → ReadsAt ops Fs a0 i a w → ∀ K : Act → World → Prop,
      (∀ v w', Below w.heap.size w w' → (Fs.getD i trivF).1 v w' → K (a.put o.dst v) w') → if Region.wanted o (yielded ops a.tmps) then o.wp P a w K Q else K (a.put o.dst undef) w)
    (hfin : ∀ a w, InvR ops Fs a0 w0 (Array.replicate ops.size true) a w → Q .normal a w) :
    ∀ (fuel : Nat) (listed : Array Bool) (a : Act) (w : World), InvR ops Fs a0 w0 listed a w → toCome listed ≤ fuel → wpAny P .any ops Q fuel listed a w := by
  have full : ∀ (listed : Array Bool) (a : Act) (w : World), InvR ops Fs a0 w0 listed a w → toCome listed = 0 → Q .normal a w := by
    intro listed a w h hz
    have : listed = Array.replicate ops.size true := by
      apply Array.ext
      · simpa using h.lsize
      · intro i h1 h2
        have := toCome_zero hz h1
        rw [Array.getElem?_eq_getElem h1] at this
        simpa using this
    subst this
    exact hfin a w h
  intro fuel
  induction fuel with
  | zero =>
    intro listed a w h hz
    have hz' : toCome listed = 0 := by omega
    refine ⟨?_, full listed a w h hz'⟩
    unfold Region.ready
    rw [List.filter_eq_nil_iff]
    intro i hi
    have := toCome_zero hz' (i := i) (by rw [h.lsize]; exact List.mem_range.1 hi)
    rw [Array.getD_eq_getD_getElem?, this]
    simp
  | succ fuel ih =>
    intro listed a w h hz
    refine ⟨fun hnil => ?_, fun i hi => ?_⟩
    · by_cases hz' : toCome listed = 0
      · exact full listed a w h hz'
      · exact absurd hnil (ready_ne hok h.lsize hz')
    · obtain ⟨hun, o, ho, _⟩ := mem_ready.1 hi
      have hin : i < listed.size := by rw [h.lsize]; exact (Array.getElem?_eq_some_iff.1 ho).1
      have hf : listed[i]? = some false := by
        rw [Array.getD_eq_getD_getElem?, Array.getElem?_eq_getElem hin] at hun
        rw [Array.getElem?_eq_getElem hin]
        simpa using hun
      have hs := hstep i o ho a w h.below h.defers (h.reads hi) (wpAny P .any ops Q fuel (listed.setIfInBounds i true)) fun v w' hb hF =>
        ih _ _ _ (h.put hok ho hi hb hF) (by have := toCome_set hf; omega)
      unfold wpOp
      rw [ho]
      show if _ then _ else _
      split
      · rename_i hw; rw [if_pos hw] at hs; exact .inl hs
      · rename_i hw; rw [if_neg hw] at hs; exact hs

/-- The slots with their values. -/
def putAll (t : Array Value) : List (Option Tmp) → List Value → Array Value
  | some d :: ds, v :: vs => putAll (t.setIfInBounds d v) ds vs
  | _, _ => t
def FsAll : List StF → List Value → World → Prop
  | F :: Fs, v :: vs, w => F.1 v w ∧ FsAll Fs vs w
  | [], [], _ => True
  | _, _, _ => False

theorem FsAll_of {w : World} : ∀ (Fs : List StF) (vs : List Value), Fs.length = vs.length → (∀ (i : Nat) v, vs[i]? = some v → (Fs.getD i trivF).1 v w) → FsAll Fs vs w
  | [], [], _, _ => trivial
  | F :: Fs, v :: vs, hl, h => ⟨by simpa using h 0 v rfl, FsAll_of Fs vs (by simpa using hl) fun i u hu => by simpa using h (i + 1) u (by simpa using hu)⟩
  | [], _ :: _, hl, _ => by simp at hl
  | _ :: _, [], hl, _ => by simp at hl

theorem FsAll_cons {F : StF} {Fs : List StF} {vs : List Value} {w : World} (h : FsAll (F :: Fs) vs w) : ∃ v vs', vs = v :: vs' ∧ F.1 v w ∧ FsAll Fs vs' w := by
  cases vs with
  | nil => exact h.elim
  | cons v vs' => exact ⟨v, vs', rfl, h.1, h.2⟩
theorem FsAll_nil {vs : List Value} {w : World} (h : FsAll [] vs w) : vs = [] := by
  cases vs with
  | nil => rfl
  | cons v vs' => exact h.elim
def slotOf (x : Array Value) : Option Tmp → Value
  | some d => x.getD d undef
  | none => undef
theorem putAll_eq (x : Array Value) : ∀ (ds : List (Option Tmp)) (t : Array Value), x.size = t.size → (∀ s, (∀ d ∈ ds, d ≠ some s) → x[s]? = t[s]?) → (∀ d ∈ ds, ∃ e, d = some e ∧ e < t.size) →
    putAll t ds (ds.map (slotOf x)) = x
  | [], t, hs, hk, _ => by
    show t = x
    apply Array.ext
    · exact hs.symm
    · intro i h1 h2
      have := hk i (by simp)
      rw [Array.getElem?_eq_getElem h1, Array.getElem?_eq_getElem h2] at this
      exact (Option.some.inj this).symm
  | none :: ds, t, hs, hk, hd => by
    obtain ⟨e, h, _⟩ := hd none (by simp)
    cases h
  | some d :: ds, t, hs, hk, hd => by
    obtain ⟨e, he, hlt⟩ := hd (some d) (by simp)
    cases he
    show putAll (t.setIfInBounds d (slotOf x (some d))) ds (ds.map (slotOf x)) = x
    refine putAll_eq x ds _ (by simpa using hs) (fun s hsd => ?_) (fun d' hd' => by
      obtain ⟨e, he, hlt⟩ := hd d' (by simp [hd'])
      exact ⟨e, he, by simpa using hlt⟩)
    by_cases hds : d = s
    · subst hds
      have h1 : d < x.size := by rw [hs]; exact hlt
      simp [slotOf, hlt, h1]
    · rw [Array.getElem?_setIfInBounds_ne hds]
      refine hk s fun d' hd' => ?_
      rcases List.mem_cons.1 hd' with rfl | hd'
      · intro e; cases e; exact hds rfl
      · exact hsd d' hd'

/-- A REGION THAT DRAWS ITS ORDER: each operation once, in whatever order they come up. -/
theorem wp_region_mono {id : Nat} (hm : P.follows .mixedOrders = true) (Fs : List StF) (hlen : Fs.length = ops.size) (hok : regionOk ops a0.tmps.size = true)
    (hstep : ∀ i o, ops[i]? = some o → ∀ a w, Below w0.heap.size w0 w → a.defers = a0.defers → ReadsAt ops Fs a0 i a w → ∀ K : Act → World → Prop,
      (∀ v w', Below w.heap.size w w' → (Fs.getD i trivF).1 v w' → K (a.put o.dst v) w') → if Region.wanted o (yielded ops a.tmps) then o.wp P a w K Q else K (a.put o.dst undef) w)
    (hfin : ∀ vs w, Below w0.heap.size w0 w → FsAll Fs vs w → Q .normal { tmps := putAll a0.tmps (ops.toList.map (·.dst)) vs, defers := a0.defers } w) :
    (Code.region id ops true).wp P Q a0 w0 := by
  refine wp_region_any hm ?_
  refine wpAny_mono_region (a0 := a0) (w0 := w0) (Fs := Fs) hok hstep ?_ ops.size _ _ _ ?_ ?_
  · intro a w h
    have hd : ∀ d ∈ ops.toList.map (·.dst), ∃ e, d = some e ∧ e < a0.tmps.size := by
      intro d hd
      obtain ⟨o, ho, rfl⟩ := List.mem_map.1 hd
      obtain ⟨i, hi⟩ := List.getElem?_of_mem ho
      obtain ⟨_, e, he, hlt, _⟩ := regionOk_at hok (i := i) (o := o) (by rw [← Array.getElem?_toList]; exact hi)
      exact ⟨e, he, hlt⟩
    have hx := putAll_eq a.tmps (ops.toList.map (·.dst)) a0.tmps h.size (fun s hs => h.kept s fun i hi e => by
      unfold dstOf at e
      cases ho : ops[i]? with
      | none => rw [ho] at e; cases e
      | some o =>
        rw [ho] at e
        exact hs o.dst (List.mem_map.2 ⟨o, List.mem_of_getElem? (by rw [Array.getElem?_toList]; exact ho), rfl⟩) e) hd
    have := hfin ((ops.toList.map (·.dst)).map (slotOf a.tmps)) w h.below (FsAll_of _ _ (by simpa using hlen) fun i v hv => by
      rw [List.map_map, List.getElem?_map, Array.getElem?_toList] at hv
      cases ho : ops[i]? with
      | none => rw [ho] at hv; cases hv
      | some o =>
        rw [ho] at hv
        simp only [Option.map_some, Function.comp, Option.some.injEq] at hv
        obtain ⟨_, d, hd', hlt, _⟩ := regionOk_at hok ho
        have hi : i < ops.size := (Array.getElem?_eq_some_iff.1 ho).1
        obtain ⟨u, hu, hF⟩ := h.done i d (by simp [hi]) (by unfold dstOf; rw [ho]; exact hd')
        rw [hd'] at hv
        have : slotOf a.tmps (some d) = u := by simp [slotOf, hu]
        rw [← hv, this]
        exact hF)
    rw [hx] at this
    have e : a = { tmps := a.tmps, defers := a0.defers } := by rw [← h.defers]
    rw [e]
    exact this
  · refine ⟨⟨rfl, rfl, rfl, Nat.le_refl _, fun _ _ => rfl⟩, rfl, rfl, by simp, ?_, ?_, fun s _ => rfl⟩
    · intro i o hi
      exfalso
      rw [Array.getElem?_replicate] at hi
      split at hi <;> cases hi
    · intro i d hi
      exfalso
      rw [Array.getElem?_replicate] at hi
      split at hi <;> cases hi
  · unfold toCome
    exact Nat.le_trans (List.countP_le_length) (by simp)

/-- From each number below to all. -/
theorem allLt {n : Nat} {p : Nat → Prop} (h : ∀ i, i < n → p i) (hn : p n) : ∀ i, i < n + 1 → p i := fun i hi => by
  rcases Nat.lt_succ_iff_lt_or_eq.1 hi with h' | rfl
  · exact h i h'
  · exact hn
theorem allLt0 {p : Nat → Prop} : ∀ i, i < 0 → p i := fun _ h => absurd h (Nat.not_lt_zero _)
/-- What is asked of one operation. -/
def StepAt (P : Program) (ops : Array Oper) (Fs : List StF) (a0 : Act) (w0 : World) (Q : Exit → Act → World → Prop) (i : Nat) : Prop :=
  ∀ o, ops[i]? = some o → ∀ a w, Below w0.heap.size w0 w → a.defers = a0.defers → ReadsAt ops Fs a0 i a w → ∀ K : Act → World → Prop,
    (∀ v w', Below w.heap.size w w' → (Fs.getD i trivF).1 v w' → K (a.put o.dst v) w') → if Region.wanted o (yielded ops a.tmps) then o.wp P a w K Q else K (a.put o.dst undef) w
theorem wp_region_go {id : Nat} (Fs : List StF) (n : Nat) (hpre : P.follows .mixedOrders = true ∧ ops.size = n ∧ Fs.length = n ∧ regionOk ops a0.tmps.size = true)
    (hstep : ∀ i, i < n → StepAt P ops Fs a0 w0 Q i)
    (hfin : ∀ vs w, Below w0.heap.size w0 w → FsAll Fs vs w → Q .normal { tmps := putAll a0.tmps (ops.toList.map (·.dst)) vs, defers := a0.defers } w) :
    (Code.region id ops true).wp P Q a0 w0 :=
  wp_region_mono hpre.1 Fs (hpre.2.2.1.trans hpre.2.1.symm) hpre.2.2.2 (fun i o ho => hstep i (by rw [← hpre.2.1]; exact (Array.getElem?_eq_some_iff.1 ho).1) o ho) hfin
end
end Go.Proofs.Ythjdhobmedodkaa
