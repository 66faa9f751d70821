import Derived.Test.YtgagnohelibaoaaDoorD
/-! A region that draws its order comes to what it comes to in the order of the text. -/
set_option linter.unusedSimpArgs false
set_option linter.unusedVariables false
namespace Go.Proofs.YtgagnohelibaoaaDoor
open Go.RowKit

/-- For which operations another one waits. -/
def depsL (o : Oper) : List Nat := o.after.toList.filterMap fun e => if Region.binds .any e then some e.on else none
/-- One waits for another one, through others perhaps. -/
def waitB (ops : Array Oper) : Nat → Nat → Nat → Bool
  | 0, _, _ => false
  | n + 1, j, i => match ops[j]? with
    | some o => (depsL o).contains i || (depsL o).any fun k => decide (i < k) && waitB ops n k i
    | none => false
/-- One of both waits for the other one. -/
def cmpB (ops : Array Oper) (i j : Nat) : Bool := waitB ops 3 j i || waitB ops 3 i j
/-- Each operation waits for earlier ones alone, writes a slot of its own, and looks at slots that are written ahead of it, or behind it, alone. -/
def regionOkD (ops : Array Oper) : Bool :=
  (List.range ops.size).all fun i => match ops[i]? with
    | none => false
    | some o => (depsL o).all (· < i) &&
      (match o.dst with | none => true | some d => (List.range ops.size).all fun j => j == i || (dstsOf ops)[j]? != some (some d)) &&
      (looks (dstsOf ops) o).all fun x => (List.range ops.size).all fun k => k == i || (dstsOf ops)[k]? != some (some x) || cmpB ops k i

def namesW (wr : List (Nat × Option HObj)) : List Nat := wr.map (·.1)
theorem applyW_out : ∀ (wr : List (Nat × Option HObj)) (H : Nat → Option HObj) (n : Nat), n ∉ namesW wr → applyW H wr n = H n
  | [], _, _, _ => rfl
  | (m, o) :: wr, H, n, h => by
    simp only [namesW, List.map_cons, List.mem_cons, not_or] at h
    rw [applyW, applyW_out wr _ n h.2, upd_ne _ _ h.1]
theorem applyW_in : ∀ (wr : List (Nat × Option HObj)) (H H' : Nat → Option HObj) (n : Nat), n ∈ namesW wr → applyW H wr n = applyW H' wr n
  | [], _, _, _, h => by simp [namesW] at h
  | (m, o) :: wr, H, H', n, h => by
    rw [applyW, applyW]
    by_cases hn : n ∈ namesW wr
    · exact applyW_in wr _ _ n hn
    · rw [applyW_out wr _ n hn, applyW_out wr _ n hn]
      simp only [namesW, List.map_cons, List.mem_cons] at h
      rcases h with rfl | h
      · rw [upd_same, upd_same]
      · exact absurd h hn

/-- Two operations of which neither waits for the other one ask and write apart. -/
def FpsOK (ops : Array Oper) (ss : List Stp) : Prop := ∀ (i j : Nat) si sj, i < j → ss[i]? = some si → ss[j]? = some sj → cmpB ops i j = true ∨ ((∀ n ∈ namesW sj.wr, n ∉ si.rd ∧ n ∉ namesW si.wr) ∧ ∀ n ∈ namesW si.wr, n ∉ sj.rd)

section
variable {P : Program} {nt : Nat} {w0 : World} {S0 : Addr → Prop} {E : List (PV × Value)} {M : List Nat} {ops : Array Oper} {ss : List Stp} {T0 : Nat → PV} {H0 : Nat → Option HObj} {N : Nat}

/-- How slots, boxes and tokens stand when those of L are done. -/
structure InvD (ops : Array Oper) (ss : List Stp) (T0 : Nat → PV) (H0 : Nat → Option HObj) (L : Nat → Prop) (T : Nat → PV) (H : Nat → Option HObj) : Prop where
  tdone : ∀ (i : Nat) d s, L i → (dstsOf ops)[i]? = some (some d) → ss[i]? = some s → T d = s.p
  tkept : ∀ x, (∀ (i : Nat), L i → (dstsOf ops)[i]? ≠ some (some x)) → T x = T0 x
  hdone : ∀ n (i : Nat) s, L i → ss[i]? = some s → n ∈ namesW s.wr → (∀ (k : Nat) s', L k → ss[k]? = some s' → n ∈ namesW s'.wr → k ≤ i) → H n = applyW H0 s.wr n
  hkept : ∀ n, (∀ (i : Nat) s, L i → ss[i]? = some s → n ∉ namesW s.wr) → H n = H0 n

theorem InvD.start (L : Nat → Prop) (hL : ∀ i, ¬ L i) : InvD ops ss T0 H0 L T0 H0 :=
  ⟨fun i d s h => absurd h (hL i), fun _ _ => rfl, fun n i s h => absurd h (hL i), fun _ _ => rfl⟩
theorem InvD.step {L L' : Nat → Prop} {T : Nat → PV} {H : Nat → Option HObj} (h : InvD ops ss T0 H0 L T H) {i : Nat} {s : Stp} {dst : Option Tmp} (hs : ss[i]? = some s) (hd : (dstsOf ops)[i]? = some dst) (hL' : ∀ k, L' k ↔ L k ∨ k = i) (hi : ¬ L i)
    (huniq : ∀ d, dst = some d → ∀ k, k ≠ i → (dstsOf ops)[k]? ≠ some (some d)) (hw : ∀ n ∈ namesW s.wr, ∀ (k : Nat) s', L k → ss[k]? = some s' → n ∈ namesW s'.wr → k ≤ i) :
    InvD ops ss T0 H0 L' (putT T dst s.p) (applyW H s.wr) := by
  refine ⟨?_, ?_, ?_, ?_⟩
  · intro k d s' hk hkd hks
    by_cases hki : k = i
    · subst hki
      rw [hd] at hkd
      cases hkd
      rw [hs] at hks
      cases hks
      exact upd_same _ _ _
    · have hk' : L k := ((hL' k).1 hk).resolve_right hki
      have := h.tdone k d s' hk' hkd hks
      cases dst with
      | none => exact this
      | some e =>
        have hne : d ≠ e := fun e' => huniq e rfl k hki (by rw [← e']; exact hkd)
        exact (upd_ne _ _ hne).trans this
  · intro x hx
    have hx' := h.tkept x fun k hk => hx k ((hL' k).2 (.inl hk))
    cases dst with
    | none => exact hx'
    | some e =>
      have hne : x ≠ e := fun e' => hx i ((hL' i).2 (.inr rfl)) (by rw [e']; exact hd)
      exact (upd_ne _ _ hne).trans hx'
  · intro n k s' hk hks hn hmax
    by_cases hki : k = i
    · subst hki
      rw [hs] at hks
      cases hks
      exact applyW_in _ _ _ _ hn
    · have hk' : L k := ((hL' k).1 hk).resolve_right hki
      by_cases hni : n ∈ namesW s.wr
      · have h1 := hw n hni k s' hk' hks hn
        have h2 := hmax i s ((hL' i).2 (.inr rfl)) hs hni
        omega
      · rw [applyW_out _ _ _ hni]
        exact h.hdone n k s' hk' hks hn fun m sm hm hms hnm => hmax m sm ((hL' m).2 (.inl hm)) hms hnm
  · intro n hn
    rw [applyW_out _ _ _ (hn i s ((hL' i).2 (.inr rfl)) hs)]
    exact h.hkept n fun k sk hk hks => hn k sk ((hL' k).2 (.inl hk)) hks

theorem okD_at (h : regionOkD ops = true) {i : Nat} {o : Oper} (ho : ops[i]? = some o) :
    (∀ j ∈ depsL o, j < i) ∧ (∀ d, o.dst = some d → ∀ k, k ≠ i → (dstsOf ops)[k]? ≠ some (some d)) ∧ ∀ x ∈ looks (dstsOf ops) o, ∀ k, k ≠ i → (dstsOf ops)[k]? = some (some x) → cmpB ops k i = true := by
  have hi : i < ops.size := (Array.getElem?_eq_some_iff.1 ho).1
  have hlt : ∀ (k : Nat) x, (dstsOf ops)[k]? = some x → k < ops.size := fun k x hk => by
    have := (List.getElem?_eq_some_iff.1 hk).1
    simpa [dstsOf] using this
  simp only [regionOkD, List.all_eq_true, List.mem_range] at h
  have h1 := h i hi
  rw [ho] at h1
  simp only [Bool.and_eq_true, List.all_eq_true, decide_eq_true_eq] at h1
  refine ⟨h1.1.1, fun d hd k hk hkd => ?_, fun x hx k hk hkd => ?_⟩
  · have h2 := h1.1.2
    rw [hd] at h2
    simp only [List.all_eq_true, List.mem_range] at h2
    have h3 := h2 k (hlt k _ hkd)
    simp only [Bool.or_eq_true, beq_iff_eq, bne_iff_ne] at h3
    rcases h3 with h3 | h3
    · exact hk h3
    · exact h3 hkd
  · have h3 := h1.2 x hx k (List.mem_range.2 (hlt k _ hkd))
    simp only [Bool.or_eq_true, beq_iff_eq, bne_iff_ne] at h3
    rcases h3 with (h3 | h3) | h3
    · exact absurd h3 hk
    · exact absurd hkd h3
    · exact h3
theorem wait_or {n i j : Nat} (h : waitB ops (n + 1) j i = true) : ∃ o, ops[j]? = some o ∧ (i ∈ depsL o ∨ ∃ k ∈ depsL o, waitB ops n k i = true) := by
  unfold waitB at h
  split at h
  · rename_i o ho
    refine ⟨o, ho, ?_⟩
    rw [Bool.or_eq_true] at h
    rcases h with h | h
    · exact .inl (by simpa using h)
    · rw [List.any_eq_true] at h
      obtain ⟨k, hk, h⟩ := h
      rw [Bool.and_eq_true] at h
      exact .inr ⟨k, hk, h.2⟩
  · cases h
theorem wait_lt (hok : regionOkD ops = true) : ∀ {n i j : Nat}, waitB ops n j i = true → i < j
  | 0, _, _, h => by cases h
  | n + 1, i, j, h => by
    obtain ⟨o, ho, h | ⟨k, hk, h⟩⟩ := wait_or h
    · exact (okD_at hok ho).1 i h
    · have h1 := (okD_at hok ho).1 k hk
      have h2 := wait_lt hok h
      omega

theorem tr_len {ds : List (Option Tmp)} {T' : Nat → PV} {H' : Nat → Option HObj} : ∀ (os : List Oper) (i : Nat) (T : Nat → PV) (H : Nat → Option HObj) (rest : List Stp), TR P M ds N i os T H rest T' H' → rest.length = os.length
  | [], _, _, _, [], _ => rfl
  | [], _, _, _, _ :: _, h => h.elim
  | _ :: _, _, _, _, [], h => h.elim
  | o :: os, i, T, H, s :: rest, h => by simp [tr_len os _ _ _ rest h.2]
theorem drop_head {α : Type} {l : List α} {i : Nat} {x : α} {xs : List α} (h : l.drop i = x :: xs) : l[i]? = some x ∧ l.drop (i + 1) = xs := by
  refine ⟨?_, ?_⟩
  · have := congrArg (·[0]?) h
    simpa using this
  · have := congrArg List.tail h
    simpa [List.tail_drop] using this
theorem dst_at {i : Nat} {o : Oper} (ho : ops[i]? = some o) : (dstsOf ops)[i]? = some o.dst := by
  unfold dstsOf
  rw [List.getElem?_map, Array.getElem?_toList, ho]
  rfl
/-- In the order of the text each operation comes to what it comes to. -/
theorem tr_steps (hok : regionOkD ops = true) {T' : Nat → PV} {H' : Nat → Option HObj} : ∀ (os : List Oper) (i : Nat) (T : Nat → PV) (H : Nat → Option HObj) (rest : List Stp), ops.toList.drop i = os → ss.drop i = rest → i + os.length = ops.size → TR P M (dstsOf ops) N i os T H rest T' H' →
    InvD ops ss T0 H0 (fun k => k < i) T H →
    (∀ (k : Nat) o s, i ≤ k → ops[k]? = some o → ss[k]? = some s → ∃ Tk Hk, InvD ops ss T0 H0 (fun j => j < k) Tk Hk ∧ OpG P M (dstsOf ops) o (N + 8 * k) Tk Hk s) ∧ InvD ops ss T0 H0 (fun k => k < ops.size) T' H'
  | [], i, T, H, rest, he, hr, hi, ht, hinv => by
    simp only [List.length_nil, Nat.add_zero] at hi
    subst hi
    cases rest with
    | cons s rest => exact ht.elim
    | nil =>
      obtain ⟨rfl, rfl⟩ := ht
      refine ⟨fun k o s hk ho _ => ?_, hinv⟩
      have := (Array.getElem?_eq_some_iff.1 ho).1
      omega
  | o :: os, i, T, H, rest, he, hr, hi, ht, hinv => by
    cases rest with
    | nil => exact ht.elim
    | cons s rest =>
      obtain ⟨hg, htr⟩ := ht
      obtain ⟨h1, h2⟩ := drop_head he
      obtain ⟨h3, h4⟩ := drop_head hr
      rw [Array.getElem?_toList] at h1
      have hinv' := hinv.step (L' := fun k => k < i + 1) h3 (dst_at h1) (fun k => by omega) (by omega) (okD_at hok h1).2.1 (fun n _ k s' hk _ _ => by omega)
      obtain ⟨r1, r2⟩ := tr_steps hok os (i + 1) _ _ rest h2 h4 (by simp at hi; omega) htr hinv'
      refine ⟨fun k o' s' hk ho' hs' => ?_, r2⟩
      by_cases hki : k = i
      · subst hki
        rw [h1] at ho'
        cases ho'
        rw [h3] at hs'
        cases hs'
        exact ⟨T, H, hinv, hg⟩
      · exact r1 k o' s' (by omega) ho' hs'

/-- Who is waited for is done, and who is done has waited. -/
structure Lst (ops : Array Oper) (L : Nat → Prop) : Prop where
  closed : ∀ (i : Nat) o, L i → ops[i]? = some o → ∀ j ∈ depsL o, L j

/-- The greatest one of some below a bound. -/
theorem greatest (p : Nat → Prop) : ∀ n, (∃ k, k < n ∧ p k) → ∃ k, k < n ∧ p k ∧ ∀ j, j < n → p j → j ≤ k
  | 0, h => by obtain ⟨k, hk, _⟩ := h; omega
  | n + 1, h => by
    by_cases hn : p n
    · exact ⟨n, by omega, hn, fun j hj _ => by omega⟩
    · obtain ⟨k, hk, hp⟩ := h
      have hkn : k < n := by
        rcases Nat.lt_or_ge k n with h' | h'
        · exact h'
        · have : k = n := by omega
          subst this
          exact absurd hp hn
      obtain ⟨m, h1, h2, h3⟩ := greatest p n ⟨k, hkn, hp⟩
      refine ⟨m, by omega, h2, fun j hj hpj => ?_⟩
      by_cases hjn : j = n
      · subst hjn; exact absurd hpj hn
      · exact h3 j (by omega) hpj

theorem wait_in {L : Nat → Prop} (hL : Lst ops L) : ∀ {n i j : Nat}, L j → waitB ops n j i = true → L i
  | 0, _, _, _, h => by cases h
  | n + 1, i, j, hj, h => by
    obtain ⟨o, ho, h | ⟨k, hk, h⟩⟩ := wait_or h
    · exact hL.closed j o hj ho i h
    · exact wait_in hL (hL.closed j o hj ho k hk) h
theorem cmp_done (hok : regionOkD ops = true) {L : Nat → Prop} (hL : Lst ops L) {i k : Nat} {o : Oper} (ho : ops[i]? = some o) (hi : ¬ L i) (hdeps : ∀ j ∈ depsL o, L j) (hc : cmpB ops k i = true) : L k ↔ k < i := by
  unfold cmpB at hc
  rw [Bool.or_eq_true] at hc
  rcases hc with hc | hc
  · refine ⟨fun _ => wait_lt hok hc, fun _ => ?_⟩
    obtain ⟨o', ho', h | ⟨m, hm, h⟩⟩ := wait_or hc
    · rw [ho] at ho'
      cases ho'
      exact hdeps k h
    · rw [ho] at ho'
      cases ho'
      exact wait_in hL (hdeps m hm) h
  · refine ⟨fun h => absurd (wait_in hL h hc) hi, fun h => ?_⟩
    have := wait_lt hok hc
    omega
/-- An operation that comes up looks at what it looks at in the order of the text. -/
theorem inv_same (hok : regionOkD ops = true) (hfp : FpsOK ops ss) {L : Nat → Prop} (hL : Lst ops L) {T Tk : Nat → PV} {H Hk : Nat → Option HObj} (h : InvD ops ss T0 H0 L T H) {i : Nat} (hk : InvD ops ss T0 H0 (fun j => j < i) Tk Hk) {o : Oper} {s : Stp} (ho : ops[i]? = some o) (hs : ss[i]? = some s)
    (hss : ss.length = ops.size) (hLlt : ∀ k, L k → k < ops.size) (hi : ¬ L i) (hdeps : ∀ j ∈ depsL o, L j) : (∀ t ∈ looks (dstsOf ops) o, T t = Tk t) ∧ (∀ n ∈ s.rd, H n = Hk n) := by
  have get : ∀ k, k < ops.size → ∃ s', ss[k]? = some s' := fun k hk => ⟨_, List.getElem?_eq_getElem (by omega)⟩
  refine ⟨fun t ht => ?_, fun n hn => ?_⟩
  · have hcl := (okD_at hok ho).2.2 t ht
    by_cases hex : ∃ k, L k ∧ (dstsOf ops)[k]? = some (some t)
    · obtain ⟨k, hLk, hd⟩ := hex
      have hki : k ≠ i := fun e => hi (e ▸ hLk)
      have hlt := (cmp_done hok hL ho hi hdeps (hcl k hki hd)).1 hLk
      obtain ⟨s', hs'⟩ := get k (hLlt k hLk)
      rw [h.tdone k t s' hLk hd hs', hk.tdone k t s' hlt hd hs']
    · have h1 := h.tkept t fun k hLk hd => hex ⟨k, hLk, hd⟩
      have h2 := hk.tkept t fun k hlt hd => by
        have hlt : k < i := hlt
        exact hex ⟨k, (cmp_done hok hL ho hi hdeps (hcl k (by omega) hd)).2 hlt, hd⟩
      rw [h1, h2]
  · have hcl : ∀ k s', k ≠ i → ss[k]? = some s' → n ∈ namesW s'.wr → cmpB ops k i = true := fun k s' hki hs' hns => by
      rcases Nat.lt_or_ge k i with hlt | hge
      · rcases hfp k i s' s hlt hs' hs with h' | h'
        · exact h'
        · exact absurd hn (h'.2 n hns)
      · rcases hfp i k s s' (by omega) hs hs' with h' | h'
        · unfold cmpB at h' ⊢
          rw [Bool.or_comm]
          exact h'
        · exact absurd hn (h'.1 n hns).1
    by_cases hex : ∃ k, k < i ∧ ∃ s', ss[k]? = some s' ∧ n ∈ namesW s'.wr
    · obtain ⟨k, hlt, ⟨s', hs', hns⟩, hmax⟩ := greatest (fun k => ∃ s', ss[k]? = some s' ∧ n ∈ namesW s'.wr) i hex
      have hLk : L k := (cmp_done hok hL ho hi hdeps (hcl k s' (by omega) hs' hns)).2 hlt
      rw [hk.hdone n k s' hlt hs' hns (fun j sj hj hsj hnj => hmax j hj ⟨sj, hsj, hnj⟩)]
      exact h.hdone n k s' hLk hs' hns (fun j sj hLj hsj hnj => by
        have hji : j ≠ i := fun e => hi (e ▸ hLj)
        exact hmax j ((cmp_done hok hL ho hi hdeps (hcl j sj hji hsj hnj)).1 hLj) ⟨sj, hsj, hnj⟩)
    · rw [hk.hkept n fun k sk hlt hsk hnk => hex ⟨k, hlt, sk, hsk, hnk⟩]
      exact h.hkept n fun k sk hLk hsk hnk => by
        have hki : k ≠ i := fun e => hi (e ▸ hLk)
        exact hex ⟨k, (cmp_done hok hL ho hi hdeps (hcl k sk hki hsk hnk)).1 hLk, sk, hsk, hnk⟩

def toCome (listed : Array Bool) : Nat := (List.range listed.size).countP fun i => listed[i]? == some false
theorem toCome_zero {listed : Array Bool} (h : toCome listed = 0) {i : Nat} (hi : i < listed.size) : listed[i]? = some true := by
  unfold toCome at h
  rw [List.countP_eq_zero] at h
  have := h i (List.mem_range.2 hi)
  rw [Array.getElem?_eq_getElem hi] at this ⊢
  cases hb : listed[i]
  · rw [hb] at this; exact absurd rfl this
  · rfl
theorem toCome_set {listed : Array Bool} {i : Nat} (hi : listed[i]? = some false) : toCome (listed.setIfInBounds i true) < toCome listed := by
  unfold toCome
  have hlt : i < listed.size := (Array.getElem?_eq_some_iff.1 hi).1
  simp only [Array.size_setIfInBounds]
  have key : ∀ l : List Nat, i ∈ l → l.Nodup → l.countP (fun j => (listed.setIfInBounds i true)[j]? == some false) < l.countP (fun j => listed[j]? == some false) := by
    intro l hm hn
    induction l with
    | nil => cases hm
    | cons x l ih =>
      rw [List.countP_cons, List.countP_cons]
      rw [List.nodup_cons] at hn
      by_cases hx : x = i
      · subst hx
        have hle : l.countP (fun j => (listed.setIfInBounds x true)[j]? == some false) ≤ l.countP (fun j => listed[j]? == some false) := by
          refine List.countP_mono_left fun j hj hh => ?_
          have hne : j ≠ x := fun e => hn.1 (e ▸ hj)
          rwa [Array.getElem?_setIfInBounds_ne (Ne.symm hne)] at hh
        have h1 : ((listed.setIfInBounds x true)[x]? == some false) = false := by simp [hlt]
        have h2 : (listed[x]? == some false) = true := by rw [hi]; rfl
        rw [h1, h2]
        simp only [Bool.false_eq_true, if_false, if_true]
        omega
      · have h1 : ((listed.setIfInBounds i true)[x]? == some false) = (listed[x]? == some false) := by rw [Array.getElem?_setIfInBounds_ne (Ne.symm hx)]
        rw [h1]
        have := ih (by simpa [Ne.symm hx] using hm) hn.2
        omega
  exact key _ (List.mem_range.2 hlt) List.nodup_range

/-- Where not all have come up, one is ready. -/
theorem mem_readyD {listed : Array Bool} {i : Nat} : i ∈ Region.ready .any ops listed ↔ listed.getD i true = false ∧ ∃ o, ops[i]? = some o ∧ ∀ j ∈ depsL o, listed.getD j false = true := by
  unfold Region.ready
  simp only [List.mem_filter, List.mem_range, Bool.and_eq_true, Bool.not_eq_true']
  constructor
  · rintro ⟨hlt, h1, h2⟩
    refine ⟨h1, ops[i], Array.getElem?_eq_getElem hlt, fun j hj => ?_⟩
    rw [Array.getElem?_eq_getElem hlt] at h2
    simp only [Option.map_some, Option.getD_some, Array.all_eq_true_iff_forall_mem] at h2
    simp only [depsL, List.mem_filterMap] at hj
    obtain ⟨e, he, hb⟩ := hj
    split at hb
    · rename_i hbd
      cases hb
      have := h2 e (Array.mem_toList_iff.1 he)
      simpa [hbd] using this
    · cases hb
  · rintro ⟨h1, o, ho, h2⟩
    refine ⟨(Array.getElem?_eq_some_iff.1 ho).1, h1, ?_⟩
    rw [ho]
    simp only [Option.map_some, Option.getD_some, Array.all_eq_true_iff_forall_mem]
    intro e he
    cases hbd : Region.binds .any e with
    | false => rfl
    | true =>
      simp only [Bool.not_true, Bool.false_or]
      exact h2 e.on (List.mem_filterMap.2 ⟨e, Array.mem_toList_iff.2 he, by rw [if_pos hbd]⟩)
theorem ready_neD (hok : regionOkD ops = true) {listed : Array Bool} (hl : listed.size = ops.size) (h : toCome listed ≠ 0) : Region.ready .any ops listed ≠ [] := by
  have hex : ∃ i, i < listed.size ∧ listed[i]? = some false := by
    unfold toCome at h
    rw [Ne, List.countP_eq_zero] at h
    simp only [List.mem_range, beq_iff_eq, Classical.not_forall, Classical.not_not] at h
    obtain ⟨i, h1, h2⟩ := h
    exact ⟨i, h1, h2⟩
  obtain ⟨i, hi⟩ := hex
  obtain ⟨m, hm, hmin⟩ : ∃ m : Nat, listed[m]? = some false ∧ ∀ k, k < m → listed[k]? ≠ some false := by
    induction i using Nat.strongRecOn with
    | _ i ih =>
      by_cases hc : ∃ k, k < i ∧ listed[k]? = some false
      · obtain ⟨k, hk, hkf⟩ := hc
        exact ih k hk ⟨(Array.getElem?_eq_some_iff.1 hkf).1, hkf⟩
      · exact ⟨i, hi.2, fun k hk hkf => hc ⟨k, hk, hkf⟩⟩
  have hmlt : m < listed.size := (Array.getElem?_eq_some_iff.1 hm).1
  have ho : ops[m]? = some (ops[m]'(by omega)) := Array.getElem?_eq_getElem _
  have hmem : m ∈ Region.ready .any ops listed := by
    rw [mem_readyD]
    refine ⟨by rw [Array.getD_eq_getD_getElem?, hm]; rfl, _, ho, fun j hj => ?_⟩
    have hjm := (okD_at hok ho).1 j hj
    have hjl : j < listed.size := by omega
    have := hmin j hjm
    rw [Array.getD_eq_getD_getElem?]
    rw [Array.getElem?_eq_getElem hjl] at this ⊢
    cases hb : listed[j]
    · rw [hb] at this; exact absurd rfl this
    · rfl
  intro hnil
  rw [hnil] at hmem
  cases hmem

def LsD (N : Nat) (listed : Array Bool) : Nat → Prop := fun m => m < N ∨ ∃ i : Nat, listed[i]? = some true ∧ N + 8 * i ≤ m ∧ m < N + 8 * i + 8
theorem drawn_any {Q : Exit → Act → World → Prop} (hok : regionOkD ops = true) (hfp : FpsOK ops ss) (hss : ss.length = ops.size) (hdst : ∀ (i : Nat) o, ops[i]? = some o → ∀ d, o.dst = some d → d < nt)
    (hsteps : ∀ (k : Nat) o s, ops[k]? = some o → ss[k]? = some s → ∃ Tk Hk, InvD ops ss T0 H0 (fun j => j < k) Tk Hk ∧ OpG P M (dstsOf ops) o (N + 8 * k) Tk Hk s)
    (hfin : ∀ S μ T H a w, InvD ops ss T0 H0 (fun k => k < ops.size) T H → Sim nt w0 S0 E S μ ⟨T, H, fun m => m < N + 8 * ops.size⟩ a w → Q .normal a w) :
    ∀ (fuel : Nat) (listed : Array Bool) (S : Addr → Prop) (μ : Nat → Value) (T : Nat → PV) (H : Nat → Option HObj) (a : Act) (w : World), listed.size = ops.size → Lst ops (fun i => listed[i]? = some true) → InvD ops ss T0 H0 (fun i => listed[i]? = some true) T H → Sim nt w0 S0 E S μ ⟨T, H, LsD N listed⟩ a w → toCome listed ≤ fuel →
      wpAny P .any ops Q fuel listed a w := by
  have full : ∀ (listed : Array Bool) (S : Addr → Prop) (μ : Nat → Value) (T : Nat → PV) (H : Nat → Option HObj) (a : Act) (w : World), listed.size = ops.size → InvD ops ss T0 H0 (fun i => listed[i]? = some true) T H → Sim nt w0 S0 E S μ ⟨T, H, LsD N listed⟩ a w → toCome listed = 0 → Q .normal a w := by
    intro listed S μ T H a w hsz hinv hs hz
    have hall : ∀ k, listed[k]? = some true ↔ k < ops.size := fun k => by
      constructor
      · intro h
        have := (Array.getElem?_eq_some_iff.1 h).1
        omega
      · intro h
        exact toCome_zero hz (by omega)
    refine hfin S μ T H a w ?_ (hs.more (D' := fun m => m < N + 8 * ops.size) (fun m hm => ?_))
    · have : (fun i : Nat => listed[i]? = some true) = fun k => k < ops.size := funext fun k => propext (hall k)
      rwa [this] at hinv
    · rcases hm with hm | ⟨i, hi, h1, h2⟩
      · show m < _
        omega
      · have := (hall i).1 hi
        show m < _
        omega
  intro fuel
  induction fuel with
  | zero =>
    intro listed S μ T H a w hsz hL hinv hs hz
    have hz' : toCome listed = 0 := by omega
    refine ⟨?_, full listed S μ T H a w hsz hinv hs hz'⟩
    by_cases hne : Region.ready .any ops listed = []
    · exact hne
    · exfalso
      obtain ⟨i, hi⟩ := List.exists_mem_of_ne_nil _ hne
      obtain ⟨h1, o, ho, _⟩ := mem_readyD.1 hi
      have hlt := (Array.getElem?_eq_some_iff.1 ho).1
      have := toCome_zero hz' (i := i) (by omega)
      rw [Array.getD_eq_getD_getElem?, this] at h1
      cases h1
  | succ fuel ih =>
    intro listed S μ T H a w hsz hL hinv hs hz
    refine ⟨fun hnil => ?_, fun i hi => ?_⟩
    · by_cases hz' : toCome listed = 0
      · exact full listed S μ T H a w hsz hinv hs hz'
      · exact absurd hnil (ready_neD hok hsz hz')
    · obtain ⟨hun, o, ho, hdeps⟩ := mem_readyD.1 hi
      have hio : i < ops.size := (Array.getElem?_eq_some_iff.1 ho).1
      have hin : i < listed.size := by omega
      have hf : listed[i]? = some false := by
        rw [Array.getD_eq_getD_getElem?, Array.getElem?_eq_getElem hin] at hun
        rw [Array.getElem?_eq_getElem hin]
        simpa using hun
      have hnot : ¬ listed[i]? = some true := by rw [hf]; simp
      have hdeps' : ∀ j ∈ depsL o, listed[j]? = some true := fun j hj => by
        have := hdeps j hj
        rw [Array.getD_eq_getD_getElem?] at this
        cases hc : listed[j]? with
        | none => rw [hc] at this; cases this
        | some b => rw [hc] at this; simp at this; rw [this]
      obtain ⟨s, hsi⟩ : ∃ s, ss[i]? = some s := ⟨_, List.getElem?_eq_getElem (by omega)⟩
      obtain ⟨Tk, Hk, hk, hg⟩ := hsteps i o s ho hsi
      have hLlt : ∀ k, listed[k]? = some true → k < ops.size := fun k hk => by
        have := (Array.getElem?_eq_some_iff.1 hk).1
        omega
      obtain ⟨e1, e2⟩ := inv_same hok hfp hL hinv hk ho hsi hss hLlt hnot hdeps'
      have hg' := opG_local hg e1 e2
      have hfresh : ∀ j, j < 8 → ¬ LsD N listed (N + 8 * i + j) := fun j hj hc => by
        rcases hc with hc | ⟨k, hkk, h1, h2⟩
        · omega
        · have e : k = i := by omega
          rw [e] at hkk
          exact hnot hkk
      have new : ∀ k, (listed.setIfInBounds i true)[k]? = some true ↔ listed[k]? = some true ∨ k = i := fun k => by
        by_cases hki : k = i
        · subst hki
          simp [hin]
        · rw [Array.getElem?_setIfInBounds_ne (Ne.symm hki)]
          simp [hki]
      have := opG_sound (ops := ops) hs ⟨N + 8 * listed.size + 8, fun m hm => by
        rcases hm with hm | ⟨i', h1, h2, h3⟩
        · omega
        · have := (Array.getElem?_eq_some_iff.1 h1).1
          omega⟩ hfresh hg' (hdst i o ho) (wpAny P .any ops Q fuel (listed.setIfInBounds i true)) Q (fun v w' S' μ' hs' => by
        refine ih (listed.setIfInBounds i true) S' μ' _ _ _ w' (by simpa using hsz) ⟨fun k ok hk hok' j hj => ?_⟩ ?_ (hs'.more (D' := LsD N (listed.setIfInBounds i true)) (fun m hm => ?_)) (by have := toCome_set hf; omega)
        · refine (new j).2 (.inl ?_)
          rcases (new k).1 hk with hk | rfl
          · exact hL.closed k ok hk hok' j hj
          · rw [ho] at hok'
            cases hok'
            exact hdeps' j hj
        · refine hinv.step hsi (dst_at ho) new hnot (okD_at hok ho).2.1 (fun n hn k s' hLk hs' hns => ?_)
          have hki : k ≠ i := fun e => hnot (e ▸ hLk)
          have hc : cmpB ops k i = true := by
            rcases Nat.lt_or_ge k i with hlt | hge
            · rcases hfp k i s' s hlt hs' hsi with h' | h'
              · exact h'
              · exact absurd hns (h'.1 n hn).2
            · rcases hfp i k s s' (by omega) hsi hs' with h' | h'
              · unfold cmpB at h' ⊢
                rw [Bool.or_comm]
                exact h'
              · exact absurd hn (h'.1 n hns).2
          have := (cmp_done hok hL ho hnot hdeps' hc).1 hLk
          omega
        · rcases hm with hm | ⟨h1, h2⟩
          · rcases hm with hm | ⟨k, hk, h1, h2⟩
            · exact .inl hm
            · exact .inr ⟨k, (new k).2 (.inl hk), h1, h2⟩
          · exact .inr ⟨i, (new i).2 (.inr rfl), h1, h2⟩)
      unfold wpOp
      rw [ho]
      show if _ then _ else _
      split
      · rename_i hw; rw [if_pos hw] at this; exact .inl this
      · rename_i hw; rw [if_neg hw] at this; exact this
end
end Go.Proofs.YtgagnohelibaoaaDoor
