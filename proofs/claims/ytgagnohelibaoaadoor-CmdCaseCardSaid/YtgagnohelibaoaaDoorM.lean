import Derived.Test.YtgagnohelibaoaaDoorL
import Derived.ScopeJumps
import Derived.Lib.Strings
import Derived.Lib.Slices
import Derived.Lib.Walk
import Derived.Lib.Bytealg
import Derived.LoadGo2
/-! Jumps back to a label; functions of values that bear no address. -/
set_option linter.unusedSimpArgs false
set_option linter.unusedVariables false
namespace Go.Proofs.YtgagnohelibaoaaDoor
open Go.RowKit

section
variable {P : Program} {nt : Nat} {M : List Nat}
/-- A scope with one label to which the run jumps back; n goes down. -/
theorem wp_scope_idx {Q : Exit → Act → World → Prop} {c rest : Code} (l : Nat) (hf : findLabel c l = some rest) (I : Nat → Act → World → Prop) {a : Act} {w : World} (first : c.wp P (Exit.jump l (fun a' w' => ∃ n, I n a' w') Q) a w)
    (pass : ∀ n a w, I n a w → rest.wp P (Exit.jump l (fun a' w' => ∃ m, m < n ∧ I m a' w') Q) a w) : (Code.scope c).wp P Q a w := by
  intro b k cs
  have hg : gotoIn l (.inScope c :: k) = some (.code rest :: .inScope c :: k) := by simp [gotoIn, hf]
  have key : ∀ n a w, I n a w → ∃ e a' w', Q e a' w' ∧ Arrives P (lone (b.at a (.code rest :: .inScope c :: k)) cs w) b k cs e a' w' := by
    intro n
    induction n using Nat.strongRecOn with
    | _ n ih =>
      intro a w hJ
      obtain ⟨e, a₁, w₁, hq, harr⟩ := pass n a w hJ b (.inScope c :: k) cs
      cases e with
      | normal => exact ⟨.normal, a₁, w₁, hq, Steps.trans harr (.one step_inScope)⟩
      | exit id => exact ⟨.exit id, a₁, w₁, hq, fun k' hk => harr k' (by simp [exitTo, hk])⟩
      | goto l' =>
        obtain ⟨rfl, m, hlt, hJ'⟩ := hq
        obtain ⟨e₂, a₂, w₂, hq₂, harr₂⟩ := ih m hlt a₁ w₁ hJ'
        exact ⟨e₂, a₂, w₂, hq₂, .of_steps (harr _ hg) harr₂⟩
      | ret => exact ⟨_, a₁, w₁, hq, harr⟩
      | panic ch => exact ⟨_, a₁, w₁, hq, harr⟩
      | outgrown => exact ⟨_, a₁, w₁, hq, harr⟩
  obtain ⟨e, a₁, w₁, hq, harr⟩ := first b (.inScope c :: k) cs
  cases e with
  | normal => exact ⟨.normal, a₁, w₁, hq, .head step_scope (Steps.trans harr (.one step_inScope))⟩
  | exit id => exact ⟨.exit id, a₁, w₁, hq, fun k' hk => .head step_scope (harr k' (by simp [exitTo, hk]))⟩
  | goto l' =>
    obtain ⟨rfl, n, hJ'⟩ := hq
    obtain ⟨e₂, a₂, w₂, hq₂, harr₂⟩ := key _ a₁ w₁ hJ'
    exact ⟨e₂, a₂, w₂, hq₂, .of_steps (.head step_scope (harr _ hg)) harr₂⟩
  | ret => exact ⟨_, a₁, w₁, hq, .of_steps (.one step_scope) harr⟩
  | panic ch => exact ⟨_, a₁, w₁, hq, .of_steps (.one step_scope) harr⟩
  | outgrown => exact ⟨_, a₁, w₁, hq, .of_steps (.one step_scope) harr⟩
theorem label_writes : ∀ {c rest : Code} {l : Nat}, findLabel c l = some rest → ∀ z, wrC c z = false → wrC rest z = false
  | .seq a b, rest, l, h, z, hz => by
    simp only [wrC, Bool.or_eq_false_iff] at hz
    simp only [findLabel] at h
    split at h
    · rename_i r hr
      cases h
      simp only [wrC, Bool.or_eq_false_iff]
      exact ⟨label_writes hr z hz.1, hz.2⟩
    · exact label_writes h z hz.2
  | .label l', rest, l, h, z, hz => by
    simp only [findLabel] at h
    split at h
    · cases h; rfl
    · cases h
  | .skip, rest, l, h, z, hz => by simp [findLabel] at h
  | .region _ _ _, rest, l, h, z, hz => by simp [findLabel] at h
  | .cond _ _ _, rest, l, h, z, hz => by simp [findLabel] at h
  | .block _ _, rest, l, h, z, hz => by simp [findLabel] at h
  | .exit _, rest, l, h, z, hz => by simp [findLabel] at h
  | .ret, rest, l, h, z, hz => by simp [findLabel] at h
  | .goto _, rest, l, h, z, hz => by simp [findLabel] at h
  | .loop _, rest, l, h, z, hz => by simp [findLabel] at h
  | .scope _, rest, l, h, z, hz => by simp [findLabel] at h
  | .rangeFunc _ _ _ _, rest, l, h, z, hz => by simp [findLabel] at h
  | .refuse _, rest, l, h, z, hz => by simp [findLabel] at h
theorem label_ok : ∀ {c rest : Code} {l : Nat}, findLabel c l = some rest → codeOK nt c = true → codeOK nt rest = true
  | .seq a b, rest, l, h, hz => by
    simp only [codeOK, Bool.and_eq_true] at hz
    simp only [findLabel] at h
    split at h
    · rename_i r hr
      cases h
      simp only [codeOK, Bool.and_eq_true]
      exact ⟨label_ok hr hz.1, hz.2⟩
    · exact label_ok h hz.2
  | .label l', rest, l, h, hz => by
    simp only [findLabel] at h
    split at h
    · cases h; rfl
    · cases h
  | .skip, rest, l, h, hz => by simp [findLabel] at h
  | .region _ _ _, rest, l, h, hz => by simp [findLabel] at h
  | .cond _ _ _, rest, l, h, hz => by simp [findLabel] at h
  | .block _ _, rest, l, h, hz => by simp [findLabel] at h
  | .exit _, rest, l, h, hz => by simp [findLabel] at h
  | .ret, rest, l, h, hz => by simp [findLabel] at h
  | .goto _, rest, l, h, hz => by simp [findLabel] at h
  | .loop _, rest, l, h, hz => by simp [findLabel] at h
  | .scope _, rest, l, h, hz => by simp [findLabel] at h
  | .rangeFunc _ _ _ _, rest, l, h, hz => by simp [findLabel] at h
  | .refuse _, rest, l, h, hz => by simp [findLabel] at h

/-- As Q; by a goto to label l: J. -/
def jumpQ (l : Nat) (J : (Nat → PV) → (Nat → Option HObj) → Nat → Prop) (Q : Post) : Post := fun e T H N => match e with
  | .goto l' => l' = l ∧ J T H N
  | e => Q e T H N
theorem jumpQ_normal (l : Nat) (J) (Q : Post) (T) (H) (N) : jumpQ l J Q .normal T H N = Q .normal T H N := nr rfl
theorem jumpQ_exit (l : Nat) (J) (Q : Post) (T) (H) (N) (id : Nat) : jumpQ l J Q (.exit id) T H N = Q (.exit id) T H N := nr rfl
theorem jumpQ_ret (l : Nat) (J) (Q : Post) (T) (H) (N) : jumpQ l J Q .ret T H N = Q .ret T H N := nr rfl
theorem jumpQ_goto (l l' : Nat) (J) (Q : Post) (T) (H) (N) : jumpQ l J Q (.goto l') T H N = (l' = l ∧ J T H N) := nr rfl
theorem scopeD {c rest : Code} {Q : Post} {T : Nat → PV} {H : Nat → Option HObj} {N : Nat} {d : Dep (Code.scope c, Q, T, H)} (hm : P.follows .mixedOrders = true) (l : Nat) (hok : codeOK nt c = true) (ws : List Nat) (hws : wrIn ws c = true) (hf : findLabel c l = some rest) (I : Nat → (Nat → PV) → (Nat → Option HObj) → Nat → Prop)
    (first : wpc P M nt c (jumpQ l (fun T' H' N' => ∃ n, I n T' H' N') Q) T H N) (pass : ∀ n f H' N', I n f H' N' → wpc P M nt rest (jumpQ l (fun T' H' N' => ∃ m, m < n ∧ I m T' H' N') Q) (ovl ws f T) H' N') : AWD P nt (.scope c) Q T H N d := by
  intro w0 S0 E S μ a w hs
  have conv : ∀ (J : (Nat → PV) → (Nat → Option HObj) → Nat → Prop) (J' : Act → World → Prop) {e a' w'} {S2 μ2 T2 H2 N2}, Sim nt w0 S0 E S2 μ2 ⟨T2, H2, belowN N2⟩ a' w' → (∀ z, wrC (.scope c) z = false → T2 z = T z) → jumpQ l J Q e T2 H2 N2 →
      (J T2 H2 N2 → J' a' w') → Exit.jump l J' (fun e a' w' => ∃ S' μ' T' H' N', Sim nt w0 S0 E S' μ' ⟨T', H', belowN N'⟩ a' w' ∧ Q e T' H' N' ∧ ∀ z, wrC (.scope c) z = false → T' z = T z) e a' w' := fun J J' e a' w' S2 μ2 T2 H2 N2 h1 h2 h3 h4 => by
    cases e with
    | goto l' => exact ⟨h3.1, h4 h3.2⟩
    | _ => exact ⟨S2, μ2, T2, H2, N2, h1, h3, h2⟩
  refine wp_scope_idx l hf (fun n a w => ∃ S μ T' H N, Sim nt w0 S0 E S μ ⟨T', H, belowN N⟩ a w ∧ I n T' H N ∧ ∀ x, wrC (.scope c) x = false → T' x = T x) ?_ ?_
  · refine wp_mono (wpc_sound hm c _ T H N hok first w0 S0 E S μ a w hs) fun e a' w' ⟨S', μ', T2, H2, N2, h1, h2, h3⟩ => ?_
    exact conv _ _ h1 h3 h2 fun ⟨n, hn⟩ => ⟨n, S', μ', T2, H2, N2, h1, hn, h3⟩
  · rintro n a w ⟨S, μ, T', H', N', hs, hI, hfr⟩
    have e : ovl ws T' T = T' := funext fun x => by
      unfold ovl
      split
      · rfl
      · rename_i hx
        refine (hfr x ?_).symm
        cases hc : wrC c x with
        | false => exact hc
        | true => exact absurd (wrIn_of hws x hc) hx
    have hr := pass n T' H' N' hI
    rw [e] at hr
    refine wp_mono (wpc_sound hm rest _ T' H' N' (label_ok hf hok) hr w0 S0 E S μ a w hs) fun e a' w' ⟨S', μ', T2, H2, N2, h1, h2, h3⟩ => ?_
    have h3' : ∀ x, wrC (.scope c) x = false → T2 x = T x := fun x hx => (h3 x (label_writes hf x hx)).trans (hfr x hx)
    exact conv _ _ h1 h3' h2 fun ⟨m, hlt, hm⟩ => ⟨m, hlt, S', μ', T2, H2, N2, h1, hm, h3'⟩

/-- A value that bears no address. -/
def plainV : PV → Option Value
  | .bool b => some (.bool b)
  | .int k n => some (.int k n)
  | .str l => some (.string ⟨l.toArray⟩)
  | _ => none
def plainL : List PV → Option (List Value)
  | [] => some []
  | p :: ps => match plainV p, plainL ps with
    | some v, some vs => some (v :: vs)
    | _, _ => none
def plainR : PV → Option Value
  | .tup ps => (plainL ps).map fun vs => .tuple vs.toArray
  | p => plainV p
theorem plainV_eq {S : Addr → Prop} {w : World} {p : PV} {v u : Value} (h : plainV p = some v) (hr : CRel S w p u) : u = v := by
  cases hr <;> simp_all [plainV]
theorem plainV_rel {S : Addr → Prop} {w : World} {p : PV} {v : Value} (h : plainV p = some v) : CRel S w p v := by
  cases p <;> simp [plainV] at h <;> subst h
  · exact .bool _
  · exact .int _ _
  · exact .str _
theorem plainL_get : ∀ {ps : List PV} {vs : List Value}, plainL ps = some vs → vs.length = ps.length ∧ ∀ (i : Nat) p, ps[i]? = some p → plainV p = some (vs.getD i undef)
  | [], vs, h => by cases h; exact ⟨rfl, fun i p h => by simp at h⟩
  | p :: ps, vs, h => by
    simp only [plainL] at h
    split at h
    · rename_i v vs' h1 h2
      cases h
      obtain ⟨hl, hg⟩ := plainL_get h2
      refine ⟨by simp [hl], fun i q hi => ?_⟩
      cases i with
      | zero => simp at hi; subst hi; simpa using h1
      | succ i => simpa using hg i q (by simpa using hi)
    · cases h
theorem plainR_rel {S : Addr → Prop} {w : World} {p : PV} {v : Value} (h : plainR p = some v) : CRel S w p v := by
  cases p with
  | tup ps =>
    simp only [plainR, Option.map_eq_some_iff] at h
    obtain ⟨vs, hv, rfl⟩ := h
    obtain ⟨hl, hg⟩ := plainL_get hv
    exact .tup ps vs.toArray (by simpa using hl) fun i p hp => by
      have := plainV_rel (S := S) (w := w) (hg i p hp)
      simpa using this
  | _ => exact plainV_rel h
/-- A function of such values, told of memory, is one without. -/
theorem callsTo_plain {f : FuncId} {args : List PV} {r : PV} {vs : List Value} {v : Value} (hc : callable P f = true) (ha : plainL args = some vs) (hr : plainR r = some v)
    (h : ∀ w, Good w → Calls P f vs.toArray w fun e w' => e = .returned v ∧ Below w.heap.size w w') : CallsTo P f args r [] := by
  refine ⟨hc, fun w S us hG hS hl hrel => ?_⟩
  obtain ⟨h1, h2⟩ := plainL_get ha
  have e : us = vs := by
    apply List.ext_getElem?
    intro i
    by_cases hi : i < args.length
    · have := plainV_eq (h2 i args[i] (by simp)) (hrel i args[i] (by simp))
      simp only [List.getD_eq_getElem?_getD] at this
      rw [List.getElem?_eq_getElem (by omega), List.getElem?_eq_getElem (by omega)] at this ⊢
      simpa using this
    · rw [List.getElem?_eq_none (by omega), List.getElem?_eq_none (by omega)]
  subst e
  refine (h w hG).mono fun e w' ⟨he, hb⟩ => ⟨v, S, fun _ => undef, he, hb, fun a _ => .rfl, fun a ha => ⟨Nat.lt_of_lt_of_le (hS a ha).1 hb.size, (hS a ha).2⟩, .c (plainR_rel hr), fun _ => plainR_rel hr, fun t e k n h => (by cases h), fun x h => (by cases h)⟩
theorem callsTo_same {f : FuncId} {args : List PV} {r : PV} {vs : List Value} {v : Value} (hc : callable P f = true) (ha : plainL args = some vs) (hr : plainR r = some v)
    (h : ∀ w, Good w → Calls P f vs.toArray w fun e w' => e = .returned v ∧ w' = w) : CallsTo P f args r [] :=
  callsTo_plain hc ha hr fun w hG => (h w hG).mono fun e w' ⟨he, hw⟩ => ⟨he, by subst hw; exact Below.refl _ _⟩
/-- A law's whole call. -/
theorem law_run {f : FuncId} {args : List PV} (h : CallsTo P f args (.bool true) []) {W : World} (hG : Good W) {vs : List Value} (hl : vs.length = args.length) (hr : ∀ (i : Nat) p, args[i]? = some p → CRel (S0 W) W p (vs.getD i undef)) :
    Calls P f vs.toArray W fun e W' => e = .returned (.bool true) ∧ Below W.heap.size W W' :=
  (h.2 W (S0 W) vs hG (fun a h => h) hl hr).mono fun e W' ⟨v, S', μ, he, hb, _, _, _, hc, _⟩ => ⟨by have := plainV_eq (p := .bool true) rfl (hc rfl); rw [he, this], hb⟩
end
end Go.Proofs.YtgagnohelibaoaaDoor
