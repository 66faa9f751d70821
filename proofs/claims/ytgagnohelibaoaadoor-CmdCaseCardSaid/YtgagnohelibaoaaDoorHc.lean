import Derived.Test.YtgagnohelibaoaaDoorHb
/-! A region that draws its order, by what holds whatever is done: for literals of maps. -/
set_option linter.unusedSimpArgs false
set_option linter.unusedVariables false
namespace Go.Proofs.YtgagnohelibaoaaDoor
open Go.RowKit

section
variable {P : Program} {nt : Nat} {w0 : World} {S0 : Addr → Prop} {E : List (PV × Value)} {M : List Nat} {ops : Array Oper} {N : Nat}
theorem drawn_inv {Q : Exit → Act → World → Prop} (hok : regionOkD ops = true) (hdst : ∀ (i : Nat) o, ops[i]? = some o → ∀ d, o.dst = some d → d < nt)
    (Inv : (Nat → Prop) → (Nat → PV) → (Nat → Option HObj) → Prop)
    (hstep : ∀ (L : Nat → Prop) (i : Nat) o T H, Lst ops L → ¬ L i → ops[i]? = some o → (∀ j ∈ depsL o, L j) → Inv L T H → ∃ s, OpG P M (dstsOf ops) o (N + 8 * i) T H s ∧ Inv (fun k => L k ∨ k = i) (putT T o.dst s.p) (applyW H s.wr))
    (hfin : ∀ S μ T H a w, Inv (fun k => k < ops.size) T H → Sim nt w0 S0 E S μ ⟨T, H, fun m => m < N + 8 * ops.size⟩ a w → Q .normal a w) :
    ∀ (fuel : Nat) (listed : Array Bool) (S : Addr → Prop) (μ : Nat → Value) (T : Nat → PV) (H : Nat → Option HObj) (a : Act) (w : World), listed.size = ops.size → Lst ops (fun i => listed[i]? = some true) → Inv (fun i => listed[i]? = some true) T H → Sim nt w0 S0 E S μ ⟨T, H, LsD N listed⟩ a w → toCome listed ≤ fuel →
      wpAny P .any ops Q fuel listed a w := by
  have full : ∀ (listed : Array Bool) (S : Addr → Prop) (μ : Nat → Value) (T : Nat → PV) (H : Nat → Option HObj) (a : Act) (w : World), listed.size = ops.size → Inv (fun i => listed[i]? = some true) T H → Sim nt w0 S0 E S μ ⟨T, H, LsD N listed⟩ a w → toCome listed = 0 → Q .normal a w := by
    intro listed S μ T H a w hsz hinv hs hz
    have hall : ∀ k, listed[k]? = some true ↔ k < ops.size := fun k => by
      constructor
      · intro h
        have := (Array.getElem?_eq_some_iff.1 h).1
        omega
      · intro h
        exact toCome_zero hz (by omega)
    refine hfin S μ T H a w ?_ (hs.more (D' := fun m => m < N + 8 * ops.size) (fun m hm => ?_))
    · have : (fun i : Nat => listed[i]? = some true) = fun k => k < ops.size := funext fun k => propext (hall k)
      rwa [this] at hinv
    · rcases hm with hm | ⟨i, hi, h1, h2⟩
      · show m < _
        omega
      · have := (hall i).1 hi
        show m < _
        omega
  intro fuel
  induction fuel with
  | zero =>
    intro listed S μ T H a w hsz hL hinv hs hz
    have hz' : toCome listed = 0 := by omega
    refine ⟨?_, full listed S μ T H a w hsz hinv hs hz'⟩
    by_cases hne : Region.ready .any ops listed = []
    · exact hne
    · exfalso
      obtain ⟨i, hi⟩ := List.exists_mem_of_ne_nil _ hne
      obtain ⟨h1, o, ho, _⟩ := mem_readyD.1 hi
      have hlt := (Array.getElem?_eq_some_iff.1 ho).1
      have := toCome_zero hz' (i := i) (by omega)
      rw [Array.getD_eq_getD_getElem?, this] at h1
      cases h1
  | succ fuel ih =>
    intro listed S μ T H a w hsz hL hinv hs hz
    refine ⟨fun hnil => ?_, fun i hi => ?_⟩
    · by_cases hz' : toCome listed = 0
      · exact full listed S μ T H a w hsz hinv hs hz'
      · exact absurd hnil (ready_neD hok hsz hz')
    · obtain ⟨hun, o, ho, hdeps⟩ := mem_readyD.1 hi
      have hio : i < ops.size := (Array.getElem?_eq_some_iff.1 ho).1
      have hin : i < listed.size := by omega
      have hf : listed[i]? = some false := by
        rw [Array.getD_eq_getD_getElem?, Array.getElem?_eq_getElem hin] at hun
        rw [Array.getElem?_eq_getElem hin]
        simpa using hun
      have hnot : ¬ listed[i]? = some true := by rw [hf]; simp
      have hdeps' : ∀ j ∈ depsL o, listed[j]? = some true := fun j hj => by
        have := hdeps j hj
        rw [Array.getD_eq_getD_getElem?] at this
        cases hc : listed[j]? with
        | none => rw [hc] at this; cases this
        | some b => rw [hc] at this; simp at this; rw [this]
      obtain ⟨s, hg', hinv'⟩ := hstep _ i o T H hL hnot ho hdeps' hinv
      have hfresh : ∀ j, j < 8 → ¬ LsD N listed (N + 8 * i + j) := fun j hj hc => by
        rcases hc with hc | ⟨k, hkk, h1, h2⟩
        · omega
        · have e : k = i := by omega
          rw [e] at hkk
          exact hnot hkk
      have new : ∀ k, (listed.setIfInBounds i true)[k]? = some true ↔ listed[k]? = some true ∨ k = i := fun k => by
        by_cases hki : k = i
        · subst hki
          simp [hin]
        · rw [Array.getElem?_setIfInBounds_ne (Ne.symm hki)]
          simp [hki]
      have := opG_sound (ops := ops) hs ⟨N + 8 * listed.size + 8, fun m hm => by
        rcases hm with hm | ⟨i', h1, h2, h3⟩
        · omega
        · have := (Array.getElem?_eq_some_iff.1 h1).1
          omega⟩ hfresh hg' (hdst i o ho) (wpAny P .any ops Q fuel (listed.setIfInBounds i true)) Q (fun v w' S' μ' hs' => by
        refine ih (listed.setIfInBounds i true) S' μ' _ _ _ w' (by simpa using hsz) ⟨fun k ok hk hok' j hj => ?_⟩ ?_ (hs'.more (D' := LsD N (listed.setIfInBounds i true)) (fun m hm => ?_)) (by have := toCome_set hf; omega)
        · refine (new j).2 (.inl ?_)
          rcases (new k).1 hk with hk | rfl
          · exact hL.closed k ok hk hok' j hj
          · rw [ho] at hok'
            cases hok'
            exact hdeps' j hj
        · have : (fun k => (listed.setIfInBounds i true)[k]? = some true) = fun k => listed[k]? = some true ∨ k = i := funext fun k => propext (new k)
          rw [this]
          exact hinv'
        · rcases hm with hm | ⟨h1, h2⟩
          · rcases hm with hm | ⟨k, hk, h1, h2⟩
            · exact .inl hm
            · exact .inr ⟨k, (new k).2 (.inl hk), h1, h2⟩
          · exact .inr ⟨i, (new i).2 (.inr rfl), h1, h2⟩)
      unfold wpOp
      rw [ho]
      show if _ then _ else _
      split
      · rename_i hw; rw [if_pos hw] at this; exact .inl this
      · rename_i hw; rw [if_neg hw] at this; exact this
end
theorem awp_seq {P : Program} {nt : Nat} {x y : Code} {Q : Post} {T : Nat → PV} {H : Nat → Option HObj} {N : Nat} (h : AWp P nt x (thenQ (fun T H N => AWp P nt y Q T H N) Q) T H N) : AWp P nt (.seq x y) Q T H N := by
  intro w0 S0 E S μ a w hs
  refine wp_seq (wp_mono (h w0 S0 E S μ a w hs) fun e a' w' ⟨S', μ', T', H', N', h1, h2, h3⟩ => ?_)
  have h3' : ∀ z, wrC (.seq x y) z = false → T' z = T z := fun z hz => h3 z (by simp only [wrC, Bool.or_eq_false_iff] at hz; exact hz.1)
  cases e with
  | normal =>
    refine wp_mono (h2 w0 S0 E S' μ' a' w' h1) fun e a2 w2 ⟨S2, μ2, T2, H2, N2, k1, k2, k3⟩ => ⟨S2, μ2, T2, H2, N2, k1, k2, fun z hz => ?_⟩
    rw [k3 z (by simp only [wrC, Bool.or_eq_false_iff] at hz; exact hz.2)]
    exact h3' z hz
  | _ => exact ⟨S', μ', T', H', N', h1, h2, h3'⟩
/-- But for the order of maps' entries the same. -/
def PermH (H H' : Nat → Option HObj) : Prop := ∀ n, H n = H' n ∨ ∃ es es', H n = some (.map es) ∧ H' n = some (.map es') ∧ es.Perm es'
theorem sim_perm {nt : Nat} {w0 : World} {S0 : Addr → Prop} {E : List (PV × Value)} {S : Addr → Prop} {μ : Nat → Value} {T : Nat → PV} {H H' : Nat → Option HObj} {D : Nat → Prop} {a : Act} {w : World} (h : Sim nt w0 S0 E S μ ⟨T, H, D⟩ a w) (hp : PermH H H') : Sim nt w0 S0 E S μ ⟨T, H', D⟩ a w := by
  have back : ∀ n o', H' n = some o' → ∃ o, H n = some o := fun n o' ho => by
    rcases hp n with h1 | ⟨es, es', h1, h2, _⟩
    · exact ⟨o', h1.trans ho⟩
    · exact ⟨_, h1⟩
  refine ⟨h.defers, h.size, h.tmps, h.extra, fun nm o' ho => ?_, fun nm nm' o o' ho ho' hne g hg => ?_, fun nm hn => ?_, h.below, h.s0, h.slt, h.low, h.good⟩
  · rcases hp nm with h1 | ⟨es, es', h1, h2, h3⟩
    · exact h.heap nm o' (h1.trans ho)
    · have e : H' nm = some o' := ho
      rw [h2] at e
      obtain rfl := Option.some.inj e
      obtain ⟨es1, ⟨k1, k2⟩, rest⟩ := h.heap nm _ h1
      exact ⟨es1, ⟨k1.trans h3, ((h3.map _).nodup_iff).1 k2⟩, rest⟩
  · obtain ⟨p1, q1⟩ := back nm o ho
    obtain ⟨p2, q2⟩ := back nm' o' ho'
    exact h.apart nm nm' p1 p2 q1 q2 hne g hg
  · rcases hp nm with h1 | ⟨es, es', h1, h2, h3⟩
    · exact h1.symm.trans (h.fresh nm hn)
    · have := h.fresh nm hn
      have e : H nm = none := this
      rw [h1] at e
      cases e
theorem region_inv {P : Program} (hm : P.follows .mixedOrders = true) {nt : Nat} {M : List Nat} {id : Nat} {ops : Array Oper} {Q : Post} {T : Nat → PV} {H : Nat → Option HObj} {N : Nat} (hok : codeOK nt (.region id ops true) = true)
    (Inv : (Nat → Prop) → (Nat → PV) → (Nat → Option HObj) → Prop) (h0 : Inv (fun _ => False) T H)
    (hstep : ∀ (L : Nat → Prop) (i : Nat) o T H, Lst ops L → ¬ L i → ops[i]? = some o → (∀ j ∈ depsL o, L j) → Inv L T H → ∃ s, OpG P M (dstsOf ops) o (N + 8 * i) T H s ∧ Inv (fun k => L k ∨ k = i) (putT T o.dst s.p) (applyW H s.wr))
    (hQ : ∀ T' H', Inv (fun k => k < ops.size) T' H' → ∃ H2, PermH H' H2 ∧ Q .normal T' H2 (N + 8 * ops.size)) : AWp P nt (.region id ops true) Q T H N := by
  intro w0 S0 E S μ a w hs
  simp only [codeOK, Bool.and_eq_true, Bool.or_eq_true, Bool.not_eq_true', List.all_eq_true] at hok
  have hdst : ∀ o ∈ ops.toList, ∀ d, o.dst = some d → d < nt := fun o ho d hd => by
    have := hok.1 o ho
    rw [hd] at this
    simpa using this
  have hr : regionOkD ops = true := by simpa using hok.2
  have hmem : ∀ (i : Nat) o, ops[i]? = some o → o ∈ ops.toList := fun i o ho => List.mem_of_getElem? (by rw [Array.getElem?_toList]; exact ho)
  have hs0 : Sim nt w0 S0 E S μ ⟨T, H, fun m => m < N + 8 * 0⟩ a w := hs.more (D' := fun m => m < N + 8 * 0) (fun m hm => by
    have : m < N := hm
    show m < _
    omega)
  refine wp_region_any hm ?_
  refine drawn_inv (P := P) (M := M) (w0 := w0) (S0 := S0) (E := E) (ops := ops) (N := N) hr (fun i o ho => hdst o (hmem i o ho))
    (fun L T' H' => Inv L T' H' ∧ ∀ x, wrC (.region id ops true) x = false → T' x = T x) ?_ ?_ ops.size _ S μ T H a _ (by simp) ⟨fun i o hi => by
      exfalso
      rw [Array.getElem?_replicate] at hi
      split at hi <;> cases hi⟩ ?_ ?_ ?_
  · rintro L i o T2 H2 hL hn ho hd ⟨hi, hf⟩
    obtain ⟨s, h1, h2⟩ := hstep L i o T2 H2 hL hn ho hd hi
    refine ⟨s, h1, h2, fun x hx => ?_⟩
    rw [← hf x hx]
    unfold putT
    cases hd : o.dst with
    | none => rfl
    | some d =>
      refine upd_ne _ _ (fun e => ?_)
      simp only [wrC] at hx
      rw [List.any_eq_false] at hx
      exact hx o (hmem i o ho) (by rw [hd, e]; simp)
  · rintro S μ T2 H2 a w ⟨hi, hf⟩ hs2
    obtain ⟨H3, hp, hq⟩ := hQ T2 H2 hi
    exact ⟨S, μ, T2, H3, _, sim_perm hs2 hp, hq, hf⟩
  · refine ⟨?_, fun _ _ => rfl⟩
    have : (fun i : Nat => (Array.replicate ops.size false)[i]? = some true) = fun _ => False := funext fun i => propext ⟨(fun h => by
      rw [Array.getElem?_replicate] at h
      split at h <;> cases h), False.elim⟩
    rw [this]
    exact h0
  · exact (hs.drew).more (D' := LsD N _) (fun m hm => .inl hm)
  · unfold toCome
    exact Nat.le_trans List.countP_le_length (by simp)
end Go.Proofs.YtgagnohelibaoaaDoor
