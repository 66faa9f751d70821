import Derived.Test.YtgagnohelibaoaaDoorB
/-! Calls, without memory. -/
set_option linter.unusedSimpArgs false
set_option linter.unusedVariables false
namespace Go.Proofs.YtgagnohelibaoaaDoor
open Go.RowKit

/-- A function that has a text. -/
def callable (P : Program) (f : FuncId) : Bool :=
  match P.funcs[f]? with
  | some fn => fn.body.isSome && !(fn.name == "runtime.NumGoroutine")
  | none => false
/-- A call of f, of what args are read as, returns what r is read as; the slices of r that bear a token (from 2 to 7) are new, and may be appended to. -/
def CallsTo (P : Program) (f : FuncId) (args : List PV) (r : PV) (toks : List (Nat × TypeId × Nat × Nat)) : Prop :=
  callable P f = true ∧ ∀ (w : World) (S : Addr → Prop) (vs : List Value), Good w → (∀ a, S a → a.block < w.heap.size ∧ a.spot = none) → vs.length = args.length → (∀ (i : Nat) p, args[i]? = some p → CRel S w p (vs.getD i undef)) →
    Calls P f vs.toArray w fun e w' => ∃ v S' μ, e = .returned v ∧ Below w.heap.size w w' ∧ (∀ a : Addr, a.block < w.heap.size → (S' a ↔ S a)) ∧ (∀ a, S' a → a.block < w'.heap.size ∧ a.spot = none) ∧ Rel S' μ (fun m => m < 8) w' r v ∧ (toks = [] → CRel S' w' r v) ∧
      (∀ t e k n, (t, e, k, n) ∈ toks → t < 8 ∧ HRel w.heap.size S' μ (fun m => m < 8) w' t (.tok e k n)) ∧
      (∀ x ∈ toks, ∀ y ∈ toks, x ≠ y → ∀ g, blk (μ x.1) = some g → blk (μ y.1) ≠ some g)

/-- It bears no address. -/
def flatC : PV → Bool
  | .bool _ => true
  | .int _ _ => true
  | .str _ => true
  | .lit _ => true
  | _ => false
def flat1 : PV → Bool
  | .agg cs => cs.all flatC
  | p => flatC p
def PV.flat : PV → Bool
  | .tup cs => cs.all flat1
  | p => flat1 p
/-- The tokens of another call, renamed. -/
def renC (nb : Nat) : PV → PV
  | .sl t xs => if t < 2 then .sl t xs else .sl (nb + t) xs
  | p => p
def ren1 (nb : Nat) : PV → PV
  | .agg cs => .agg (cs.map (renC nb))
  | p => renC nb p
def ren (nb : Nat) : PV → PV
  | .tup cs => .tup (cs.map (ren1 nb))
  | p => ren1 nb p
def imp (nb : Nat) (r : PV) (toks : List (Nat × TypeId × Nat × Nat)) : PV :=
  match toks with
  | [] => r
  | _ => ren nb r
def wrs (nb : Nat) (toks : List (Nat × TypeId × Nat × Nat)) : List (Nat × Option HObj) := toks.map fun x => (nb + x.1, some (.tok x.2.1 x.2.2.1 x.2.2.2))
/-- What is handed on: a box that a function value holds is read as it is. -/
def resC (H : Nat → Option HObj) : PV → Option (PV × List Nat)
  | .ptr nm off => match H nm with
    | some (.box cs) => match stripL (cs.drop off) with
      | some l => if (cs.drop off).all PV.one = true then some (.iptr l, [nm]) else none
      | none => none
    | _ => none
  | p => match stripC p with
    | some q => some (q, [])
    | none => none
def resL (H : Nat → Option HObj) : List PV → Option (List PV × List Nat)
  | [] => some ([], [])
  | p :: ps => match resC H p with
    | some (q, l) => match resL H ps with
      | some (qs, ls) => some (q :: qs, l ++ ls)
      | none => none
    | none => none
def argE (H : Nat → Option HObj) : PV → Option (PV × List Nat)
  | .clo f a b => match resL H a with
    | some (a', l) => match resL H b with
      | some (b', l') => some (.clo f a' b', l ++ l')
      | none => none
    | none => none
  | p => match strip1 p with
    | some q => some (q, [])
    | none => none
def argsE (H : Nat → Option HObj) : List PV → Option (List PV × List Nat)
  | [] => some ([], [])
  | p :: ps => match argE H p with
    | some (q, l) => match argsE H ps with
      | some (qs, ls) => some (q :: qs, l ++ ls)
      | none => none
    | none => none

section
variable {P : Program} {nt : Nat} {w0 : World} {S0 : Addr → Prop} {E : List (PV × Value)} {S : Addr → Prop} {μ : Nat → Value} {st : St} {a : Act} {w w' : World} {r : Res} {o : Oper} {nb : Nat} {M : List Nat} {H : Nat → Option HObj}

theorem flatC_rel {D : Nat → Prop} {p : PV} {v : Value} (h : Rel S μ D w p v) (hf : flatC p = true) (S' : Addr → Prop) (μ' : Nat → Value) (D' : Nat → Prop) (w' : World) : Rel S' μ' D' w' p v := by
  cases p <;> simp [flatC] at hf
  · rw [rel_bool h]; exact .c (.bool _)
  · rw [rel_int h]; exact .c (.int _ _)
  · rw [rel_str h]; exact .c (.str _)
  · rw [rel_lit h]; exact .c (.lit _)
theorem flat1_rel {D : Nat → Prop} {p : PV} {v : Value} (h : Rel S μ D w p v) (hf : flat1 p = true) (S' : Addr → Prop) (μ' : Nat → Value) (D' : Nat → Prop) (w' : World) : Rel S' μ' D' w' p v := by
  cases p with
  | agg cs =>
    obtain ⟨arr, rfl, hs, hr⟩ := rel_agg h
    simp only [flat1, List.all_eq_true] at hf
    exact .agg _ _ hs fun i p hp => flatC_rel (hr i p hp) (hf p (List.mem_of_getElem? hp)) _ _ _ _
  | _ => exact flatC_rel h hf _ _ _ _
theorem flat_rel {D : Nat → Prop} {p : PV} {v : Value} (h : Rel S μ D w p v) (hf : p.flat = true) (S' : Addr → Prop) (μ' : Nat → Value) (D' : Nat → Prop) (w' : World) : Rel S' μ' D' w' p v := by
  cases p with
  | tup cs =>
    obtain ⟨arr, rfl, hs, hr⟩ := rel_tup h
    simp only [PV.flat, List.all_eq_true] at hf
    exact .tup _ _ hs fun i p hp => flat1_rel (hr i p hp) (hf p (List.mem_of_getElem? hp)) _ _ _ _
  | _ => exact flat1_rel h hf _ _ _ _

/-- The names of a callee among those of the call. -/
def joinμ (μ μc : Nat → Value) (nb : Nat) : Nat → Value := fun m => if nb ≤ m ∧ m < nb + 8 then μc (m - nb) else μ m
theorem renC_rel {μc : Nat → Value} {D : Nat → Prop} {p : PV} {v : Value} (h : Rel S μc (fun m => m < 8) w p v) (hp : ∀ nm off, p ≠ .ptr nm off) (hbs : ∀ nm off k n m, p ≠ .bs nm off k n m) (hmp : ∀ nm, p ≠ .mp nm) (hc : ∀ f a b, p ≠ .clo f a b) (ha : ∀ cs, p ≠ .agg cs) (ht : ∀ cs, p ≠ .tup cs) : Rel S (joinμ μ μc nb) (moreD D nb) w (renC nb p) v := by
  cases p with
  | sl t xs =>
    by_cases hlt : t < 2
    · have e : renC nb (.sl t xs) = .sl t xs := by simp only [renC, if_pos hlt]
      rw [e]
      cases h with
      | c h => exact .c h
      | tok _ _ _ h2 _ _ _ => omega
    · have e : renC nb (.sl t xs) = .sl (nb + t) xs := by simp only [renC, if_neg hlt]
      rw [e]
      cases h with
      | c h =>
        exfalso
        cases h
        omega
      | tok _ _ _ h2 hx hv h =>
        refine .tok (nb + t) xs v (by omega) (.inr ⟨by omega, by omega⟩) ?_ h
        unfold joinμ
        rw [if_pos ⟨by omega, by omega⟩, show nb + t - nb = t by omega]
        exact hv
  | ptr nm off => exact absurd rfl (hp nm off)
  | bs nm off k n m => exact absurd rfl (hbs nm off k n m)
  | mp nm => exact absurd rfl (hmp nm)
  | clo f a b => exact absurd rfl (hc f a b)
  | agg cs => exact absurd rfl (ha cs)
  | tup cs => exact absurd rfl (ht cs)
  | _ => cases h with | c h => exact .c h
/-- Neither pointer nor function value nor struct. -/
def impC : PV → Bool
  | .ptr _ _ => false
  | .bs _ _ _ _ _ => false
  | .mp _ => false
  | .clo _ _ _ => false
  | .agg _ => false
  | .tup _ => false
  | _ => true
def imp1 : PV → Bool
  | .agg cs => cs.all impC
  | p => impC p
def PV.imps : PV → Bool
  | .tup cs => cs.all imp1
  | p => imp1 p
theorem impC_rel {μc : Nat → Value} {D : Nat → Prop} {p : PV} {v : Value} (h : Rel S μc (fun m => m < 8) w p v) (hp : impC p = true) : Rel S (joinμ μ μc nb) (moreD D nb) w (renC nb p) v :=
  renC_rel h (fun _ _ e => by subst e; cases hp) (fun _ _ _ _ _ e => by subst e; cases hp) (fun _ e => by subst e; cases hp) (fun _ _ _ e => by subst e; cases hp) (fun _ e => by subst e; cases hp) (fun _ e => by subst e; cases hp)
theorem imp1_rel {μc : Nat → Value} {D : Nat → Prop} {p : PV} {v : Value} (h : Rel S μc (fun m => m < 8) w p v) (hp : imp1 p = true) : Rel S (joinμ μ μc nb) (moreD D nb) w (ren1 nb p) v := by
  cases p with
  | agg cs =>
    obtain ⟨arr, rfl, hs, hr⟩ := rel_agg h
    simp only [imp1, List.all_eq_true] at hp
    refine .agg _ _ (by simpa using hs) fun i p hi => ?_
    rw [List.getElem?_map] at hi
    cases hc : cs[i]? with
    | none => rw [hc] at hi; cases hi
    | some q =>
      rw [hc] at hi
      simp only [Option.map_some, Option.some.injEq] at hi
      subst hi
      exact impC_rel (hr i q hc) (hp q (List.mem_of_getElem? hc))
  | _ => exact impC_rel h hp
theorem imp_rel {μc : Nat → Value} {D : Nat → Prop} {p : PV} {v : Value} (h : Rel S μc (fun m => m < 8) w p v) (hp : p.imps = true) : Rel S (joinμ μ μc nb) (moreD D nb) w (ren nb p) v := by
  cases p with
  | tup cs =>
    obtain ⟨arr, rfl, hs, hr⟩ := rel_tup h
    simp only [PV.imps, List.all_eq_true] at hp
    refine .tup _ _ (by simpa using hs) fun i p hi => ?_
    rw [List.getElem?_map] at hi
    cases hc : cs[i]? with
    | none => rw [hc] at hi; cases hi
    | some q =>
      rw [hc] at hi
      simp only [Option.map_some, Option.some.injEq] at hi
      subst hi
      exact imp1_rel (hr i q hc) (hp q (List.mem_of_getElem? hc))
  | _ => exact imp1_rel h hp

theorem own_base {B B' : Nat} {e : TypeId} {k n : Nat} {v : Value} {vs : List Value} (h : w.ownsRow B' e k v n vs) (hB : B ≤ B') : w.ownsRow B e k v n vs := by
  refine ⟨h.1, ?_⟩
  rcases h.2 with hl | ⟨g, cap, cur, e1, e2, e3⟩
  · exact .inl hl
  · exact .inr ⟨g, cap, cur, e1, by omega, e3⟩
/-- The tokens of a callee are taken over. -/
theorem take_toks {μc : Nat → Value} {Sc : Addr → Prop} {T : Nat → PV} {D : Nat → Prop} {Bc : Nat} (hBc : ∀ nm o, H nm = some o → ∀ g, blk (μ nm) = some g → g < Bc) (hB0 : w0.heap.size ≤ Bc) (hnb : ∀ j, j < 8 → ¬ D (nb + j)) : ∀ (toks : List (Nat × TypeId × Nat × Nat)),
    Sim nt w0 S0 E Sc μ ⟨T, H, D⟩ a w' → (∀ t e k n, (t, e, k, n) ∈ toks → t < 8 ∧ HRel Bc Sc μc (fun m => m < 8) w' t (.tok e k n)) → (∀ x ∈ toks, ∀ y ∈ toks, x ≠ y → ∀ g, blk (μc x.1) = some g → blk (μc y.1) ≠ some g) →
    Sim nt w0 S0 E Sc (joinμ μ μc nb) ⟨T, applyW H (wrs nb toks), moreD D nb⟩ a w' ∧ ∀ m o, applyW H (wrs nb toks) m = some o → H m = some o ∧ D m ∨ ∃ x ∈ toks, m = nb + x.1 ∧ o = .tok x.2.1 x.2.2.1 x.2.2.2 := by
  intro toks h htok hap
  have hjoin : ∀ m, D m → joinμ μ μc nb m = μ m := fun m hm => by
    unfold joinμ
    rw [if_neg]
    rintro ⟨h1, h2⟩
    exact hnb (m - nb) (by omega) (by rwa [show nb + (m - nb) = m by omega])
  have hof : ∀ (l : List (Nat × TypeId × Nat × Nat)) (H' : Nat → Option HObj) m o, applyW H' (wrs nb l) m = some o → H' m = some o ∨ ∃ x ∈ l, m = nb + x.1 ∧ o = .tok x.2.1 x.2.2.1 x.2.2.2 := by
    intro l
    induction l with
    | nil => intro H' m o hm; exact .inl hm
    | cons x l ih =>
      intro H' m o hm
      simp only [wrs, List.map_cons, applyW] at hm
      rcases ih _ m o hm with h1 | ⟨y, hy, h2⟩
      · by_cases e : m = nb + x.1
        · subst e
          rw [upd_same] at h1
          cases h1
          exact .inr ⟨x, by simp, rfl, rfl⟩
        · rw [upd_ne _ _ e] at h1
          exact .inl h1
      · exact .inr ⟨y, by simp [hy], h2⟩
  have hH : ∀ m o, applyW H (wrs nb toks) m = some o → H m = some o ∧ D m ∨ ∃ x ∈ toks, m = nb + x.1 ∧ o = .tok x.2.1 x.2.2.1 x.2.2.2 := fun m o hm => by
    rcases hof toks H m o hm with h1 | h1
    · exact .inl ⟨h1, h.lt h1⟩
    · exact .inr h1
  have hj2 : ∀ t, t < 8 → joinμ μ μc nb (nb + t) = μc t := fun t ht => by
    unfold joinμ
    rw [if_pos ⟨by omega, by omega⟩, show nb + t - nb = t by omega]
  refine ⟨h.on (fun _ h => h) (fun _ _ => rfl) (fun _ h => .inl h) hjoin ?_ ?_ ?_ (Below.refl _ _) (fun _ _ h => h) h.slt, hH⟩
  · intro m o hm
    rcases hH m o hm with ⟨h1, hD⟩ | ⟨x, hx, rfl, rfl⟩
    · exact (h.heap m o h1).keep (fun _ h => h) (fun _ _ => rfl) (fun _ h => .inl h) hjoin hD (Nat.le_refl _) (fun g hg => ⟨rfl, fun _ _ h => h⟩)
    · obtain ⟨t, e, k, n⟩ := x
      obtain ⟨h8, vs, h2, hown, hfree⟩ := htok t e k n hx
      refine ⟨vs, by simp only; omega, ?_, ?_⟩
      · rw [hj2 t h8]; exact own_base hown hB0
      · intro b hb
        rw [hj2 t h8] at hb
        exact hfree b hb
  · intro m m' o1 o2 hm hm' hne g hg hg'
    rcases hH m o1 hm with ⟨h1, hD⟩ | ⟨x, hx, rfl, rfl⟩
    · rw [hjoin m hD] at hg
      rcases hH m' o2 hm' with ⟨h2, hD'⟩ | ⟨y, hy, rfl, rfl⟩
      · rw [hjoin m' hD'] at hg'
        exact h.apart m m' o1 o2 h1 h2 hne g hg hg'
      · obtain ⟨t, e, k, n⟩ := y
        obtain ⟨h8, htk⟩ := htok t e k n hy
        rw [hj2 t h8] at hg'
        have := (hrel_blk htk g hg').1
        have := hBc m o1 h1 g hg
        omega
    · obtain ⟨t, e, k, n⟩ := x
      obtain ⟨h8, htk⟩ := htok t e k n hx
      rw [hj2 t h8] at hg
      rcases hH m' o2 hm' with ⟨h2, hD'⟩ | ⟨y, hy, rfl, rfl⟩
      · rw [hjoin m' hD'] at hg'
        have := (hrel_blk htk g hg).1
        have := hBc m' o2 h2 g hg'
        omega
      · obtain ⟨t', e', k', n'⟩ := y
        obtain ⟨h8', htk'⟩ := htok t' e' k' n' hy
        rw [hj2 t' h8'] at hg'
        exact hap _ hx _ hy (fun e => hne (by rw [e])) g hg hg'
  · intro m hm
    cases hc : applyW H (wrs nb toks) m with
    | none => rfl
    | some o =>
      exfalso
      rcases hH m o hc with ⟨_, hD⟩ | ⟨x, hx, rfl, _⟩
      · exact hm (.inl hD)
      · obtain ⟨t, e, k, n⟩ := x
        obtain ⟨h8, _⟩ := htok t e k n hx
        exact hm (.inr ⟨by simp only; omega, by simp only; omega⟩)

/-- The cells that stay, and those of the boxes that are handed on. -/
def plusS (S : Addr → Prop) (H : Nat → Option HObj) (μ : Nat → Value) (rd : List Nat) : Addr → Prop := fun b => S b ∨ (b.spot = none ∧ ∃ nm ∈ rd, ∃ cs, H nm = some (.box cs) ∧ blk (μ nm) = some b.block ∧ b.off < cs.length)
theorem plusS_mono {rd rd' : List Nat} (h : ∀ n ∈ rd, n ∈ rd') : ∀ b, plusS S H μ rd b → plusS S H μ rd' b := fun b hb => by
  rcases hb with hb | ⟨h1, nm, h2, h3⟩
  · exact .inl hb
  · exact .inr ⟨h1, nm, h nm h2, h3⟩
theorem resC_rel (h : Sim nt w0 S0 E S μ st a w) {p q : PV} {rd : List Nat} {v : Value} (he : resC st.H p = some (q, rd)) (hr : Rel S μ st.D w p v) : CRel (plusS S st.H μ rd) w q v := by
  have plain : ∀ q', stripC p = some q' → rd = [] → q = q' → CRel (plusS S st.H μ rd) w q v := fun q' h1 h2 h3 => by
    subst h3
    exact (rel_stripC hr h1).mono (fun _ h => .inl h) (fun _ _ => rfl)
  unfold resC at he
  split at he
  · rename_i nm off
    split at he
    · rename_i cs hcs
      split at he
      · rename_i l hl
        split at he
        · rename_i hone
          simp only [Option.some.injEq, Prod.mk.injEq] at he
          obtain ⟨rfl, rfl⟩ := he
          obtain ⟨g, rfl, hD, hg⟩ := rel_ptr hr
          obtain ⟨g', hg', hB, hlt, hcell, hfr, hS⟩ := h.heap nm _ hcs
          rw [hg] at hg'
          have hgg : g' = g := by injection hg' with h; injection h with h; injection h with h; exact h.symm
          subst hgg
          obtain ⟨hll, hlg⟩ := stripL_get hl
          have hall : ∀ j : Nat, ∃ u : Value, u.oneCell' = true ∧ ∀ p, l[j]? = some p → off + j < cs.length ∧ w.cell? ⟨g', off + j, none⟩ = some u ∧ CRel S w p u := fun j => by
            cases hj : l[j]? with
            | none => exact ⟨.nilFunc, rfl, fun p h => by cases h⟩
            | some p =>
              obtain ⟨q0, hq0, hq1⟩ := hlg j p hj
              have hq0' := hq0
              rw [List.getElem?_drop] at hq0
              obtain ⟨u, hu, hru⟩ := hcell _ q0 hq0
              refine ⟨u, one_one hru (List.all_eq_true.1 hone q0 (List.mem_of_getElem? hq0')), fun p' h => ?_⟩
              cases h
              exact ⟨(List.getElem?_eq_some_iff.1 hq0).1, hu, rel_stripC hru hq1⟩
          obtain ⟨u, hu⟩ := Classical.axiomOfChoice hall
          refine .iptr l _ u (fun j => (hu j).1) (fun j p hj => ?_) (fun j p hj => ((hu j).2 p hj).2.2.mono (fun _ h => .inl h) (fun _ _ => rfl))
          rw [Addr.add_lit]
          exact ⟨.inr ⟨rfl, nm, by simp, cs, hcs, by rw [hg]; rfl, ((hu j).2 p hj).1⟩, ((hu j).2 p hj).2.1⟩
        · cases he
      · cases he
    · cases he
  · split at he
    · rename_i q' hq'
      simp only [Option.some.injEq, Prod.mk.injEq] at he
      exact plain q' hq' he.2.symm he.1.symm
    · cases he
theorem resL_rel (h : Sim nt w0 S0 E S μ st a w) : ∀ {ps qs : List PV} {rd : List Nat}, resL st.H ps = some (qs, rd) → qs.length = ps.length ∧ ∀ (us : Array Value), (∀ (i : Nat) p, ps[i]? = some p → Rel S μ st.D w p (us.getD i undef)) →
    ∀ (i : Nat) q, qs[i]? = some q → CRel (plusS S st.H μ rd) w q (us.getD i undef)
  | [], qs, rd, he => by
    simp only [resL, Option.some.injEq, Prod.mk.injEq] at he
    obtain ⟨rfl, rfl⟩ := he
    exact ⟨rfl, fun us hr i q hi => by simp at hi⟩
  | p :: ps, qs, rd, he => by
    simp only [resL] at he
    split at he
    · rename_i q l hq
      split at he
      · rename_i qs' ls hqs
        simp only [Option.some.injEq, Prod.mk.injEq] at he
        obtain ⟨rfl, rfl⟩ := he
        obtain ⟨ih1, ih2⟩ := resL_rel h hqs
        refine ⟨by simp [ih1], fun us hr i q' hi => ?_⟩
        cases i with
        | zero =>
          simp only [List.getElem?_cons_zero, Option.some.injEq] at hi
          subst hi
          exact (resC_rel h hq (hr 0 p rfl)).mono (plusS_mono (fun n hn => by simp [hn])) (fun _ _ => rfl)
        | succ i =>
          have := ih2 (us.extract 1 us.size) (fun i p hp => by
            have := hr (i + 1) p (by simpa using hp)
            have e : (us.extract 1 us.size).getD i undef = us.getD (i + 1) undef := by
              simp only [Array.getD_eq_getD_getElem?, Array.getElem?_extract]
              congr 1
              split
              · rw [Nat.add_comm]
              · exact (Array.getElem?_eq_none (by omega)).symm
            rw [e]
            exact this) i q' (by simpa using hi)
          have e : (us.extract 1 us.size).getD i undef = us.getD (i + 1) undef := by
            simp only [Array.getD_eq_getD_getElem?, Array.getElem?_extract]
            congr 1
            split
            · rw [Nat.add_comm]
            · exact (Array.getElem?_eq_none (by omega)).symm
          rw [e] at this
          exact this.mono (plusS_mono (fun n hn => by simp [hn])) (fun _ _ => rfl)
      · cases he
    · cases he
theorem argE_rel (h : Sim nt w0 S0 E S μ st a w) {p q : PV} {rd : List Nat} {v : Value} (he : argE st.H p = some (q, rd)) (hr : Rel S μ st.D w p v) : CRel (plusS S st.H μ rd) w q v := by
  unfold argE at he
  split at he
  · rename_i f x y
    split at he
    · rename_i x' l hx
      split at he
      · rename_i y' l' hy
        simp only [Option.some.injEq, Prod.mk.injEq] at he
        obtain ⟨rfl, rfl⟩ := he
        obtain ⟨fs, cs, rfl, s1, s2, r1, r2⟩ := rel_clo hr
        obtain ⟨n1, g1⟩ := resL_rel h hx
        obtain ⟨n2, g2⟩ := resL_rel h hy
        exact .clo f x' y' fs cs (by omega) (by omega) (fun i q hi => (g1 fs r1 i q hi).mono (plusS_mono (fun n hn => by simp [hn])) (fun _ _ => rfl))
          (fun i q hi => (g2 cs r2 i q hi).mono (plusS_mono (fun n hn => by simp [hn])) (fun _ _ => rfl))
      · cases he
    · cases he
  · split at he
    · rename_i q' hq
      simp only [Option.some.injEq, Prod.mk.injEq] at he
      obtain ⟨rfl, rfl⟩ := he
      exact (rel_strip1 hr hq).mono (fun _ h => .inl h) (fun _ _ => rfl)
    · cases he
theorem argsE_rel (h : Sim nt w0 S0 E S μ st a w) : ∀ {ps qs : List PV} {rd : List Nat}, argsE st.H ps = some (qs, rd) → ∀ (us : List Value), us.length = ps.length → (∀ (i : Nat) p, ps[i]? = some p → Rel S μ st.D w p (us.getD i undef)) →
    qs.length = ps.length ∧ ∀ (i : Nat) q, qs[i]? = some q → CRel (plusS S st.H μ rd) w q (us.getD i undef)
  | [], qs, rd, he, us, hl, hr => by
    simp only [argsE, Option.some.injEq, Prod.mk.injEq] at he
    obtain ⟨rfl, rfl⟩ := he
    exact ⟨rfl, fun i q hi => by simp at hi⟩
  | p :: ps, qs, rd, he, us, hl, hr => by
    simp only [argsE] at he
    split at he
    · rename_i q l hq
      split at he
      · rename_i qs' ls hqs
        simp only [Option.some.injEq, Prod.mk.injEq] at he
        obtain ⟨rfl, rfl⟩ := he
        cases us with
        | nil => simp at hl
        | cons u us =>
          obtain ⟨ih1, ih2⟩ := argsE_rel h hqs us (by simpa using hl) (fun i p hp => by simpa using hr (i + 1) p (by simpa using hp))
          refine ⟨by simp [ih1], fun i q' hi => ?_⟩
          cases i with
          | zero =>
            simp only [List.getElem?_cons_zero, Option.some.injEq] at hi
            subst hi
            exact (argE_rel h hq (hr 0 p rfl)).mono (plusS_mono (fun n hn => by simp [hn])) (fun _ _ => rfl)
          | succ i => exact (ih2 i q' (by simpa using hi)).mono (plusS_mono (fun n hn => by simp [hn])) (fun _ _ => rfl)
      · cases he
    · cases he

/-- As Moves, for whatever comes behind. -/
def MovesW (P : Program) (nt : Nat) (w0 : World) (S0 : Addr → Prop) (E : List (PV × Value)) (st : St) (a : Act) (w : World) (o : Oper) (nb : Nat) (p : PV) (wr : List (Nat × Option HObj)) : Prop :=
  ∀ (K : Act → World → Prop) (Q : Exit → Act → World → Prop), (∀ v w' S' μ', Sim nt w0 S0 E S' μ' { T := st.T, H := applyW st.H wr, D := moreD st.D nb } a w' → Rel S' μ' (moreD st.D nb) w' p v → K (a.put o.dst v) w') → o.wp P a w K Q
theorem moves_w (h : Moves P nt w0 S0 E st a w o nb r) : MovesW P nt w0 S0 E st a w o nb r.val r.wr := by
  obtain ⟨x, v, w', S', μ', hrun, hx, hs, hr⟩ := h
  intro K Q hK
  unfold Oper.wp
  rw [hrun]
  rcases hx with rfl | ⟨rfl, rfl⟩
  · exact hK v w' S' μ' hs hr
  · exact hK undef w' S' μ' hs hr
/-- A call runs. -/
theorem call_core (h : Sim nt w0 S0 E S μ st a w) (hnb : ∀ j, j < 8 → ¬ st.D (nb + j)) {c : Call} {fo : Operand} (ho : o.op = .call c) (hcal : c.callee = .value fo) {f : FuncId} {fa fb args : List PV} {rd : List Nat}
    (hargs : argsE st.H ((fo :: c.args.toList).map (ev st.T)) = some (.clo (.func f) fa fb :: args, rd)) {r : PV} {toks : List (Nat × TypeId × Nat × Nat)} (hc : CallsTo P f (fa ++ args ++ fb) r toks)
    {K : Act → World → Prop} {Q : Exit → Act → World → Prop} (hK : ∀ v w' S' μc, Below w.heap.size w w' → (∀ a : Addr, a.block < w.heap.size → (S' a ↔ plusS S st.H μ rd a)) → (∀ a, S' a → a.block < w'.heap.size ∧ a.spot = none) → Rel S' μc (fun m => m < 8) w' r v → (toks = [] → CRel S' w' r v) →
      (∀ t e k n, (t, e, k, n) ∈ toks → t < 8 ∧ HRel w.heap.size S' μc (fun m => m < 8) w' t (.tok e k n)) → (∀ x ∈ toks, ∀ y ∈ toks, x ≠ y → ∀ g, blk (μc x.1) = some g → blk (μc y.1) ≠ some g) → K (a.put o.dst v) w') : o.wp P a w K Q := by
  have hx := rel_ev h.tmps
  obtain ⟨hcall, hcalls⟩ := hc
  obtain ⟨n1, g1⟩ := argsE_rel h hargs ((fo :: c.args.toList).map a.eval) (by simp) (fun i p hp => by
    rw [List.getElem?_map] at hp
    cases hi : (fo :: c.args.toList)[i]? with
    | none => rw [hi] at hp; cases hp
    | some x =>
      rw [hi] at hp
      simp only [Option.map_some, Option.some.injEq] at hp
      subst hp
      rw [List.getD_eq_getElem?_getD, List.getElem?_map, hi]
      exact hx x)
  have g0 := g1 0 _ rfl
  simp only [List.map_cons, List.getD_cons_zero] at g0
  generalize hfv : a.eval fo = fv at g0
  cases g0 with
  | clo _ _ _ fs cs s1 s2 r1 r2 =>
    obtain ⟨vs, hvs⟩ : ∃ vs, vs = fs.toList ++ c.args.toList.map a.eval ++ cs.toList := ⟨_, rfl⟩
    have hal : args.length = c.args.toList.length := by simpa using n1
    have hrun : (execOp a.eval o).run P w = .ok (.enter f vs.toArray) w := by
      unfold execOp
      unfold callable at hcall
      simp only [ho, resolve, hcal, hfv, Deferred.ofValue, Sem.run_bind, Sem.run_pure, Result.andThen_ok, invoke, callFunc, run_program]
      split at hcall
      · rename_i fn hfn
        simp only [Bool.and_eq_true, Bool.not_eq_true'] at hcall
        have hb : fn.body.isNone = false := by
          cases hbb : fn.body with
          | none => rw [hbb] at hcall; simp at hcall
          | some _ => rfl
        simp only [hfn, hcall.2, hb, Bool.false_eq_true, if_false, Sem.run_pure]
        congr 2
        apply Array.ext'
        rw [hvs]
        simp
      · cases hcall
    have hpl : ∀ b, plusS S st.H μ rd b → b.block < w.heap.size ∧ b.spot = none := fun b hb => by
      rcases hb with hb | ⟨h1, nm, _, cs', hcs, hbk, _⟩
      · exact h.slt b hb
      · exact ⟨(hrel_blk (h.heap nm _ hcs) _ hbk).2, h1⟩
    have hC := hcalls w (plusS S st.H μ rd) vs (h.good.below h.below) hpl (by rw [hvs]; simp [s1, s2, hal]) (fun i p hp => by
      rw [hvs, List.getD_eq_getElem?_getD]
      rw [List.append_assoc, List.getElem?_append] at hp
      rw [List.append_assoc, List.getElem?_append]
      by_cases h1 : i < fa.length
      · rw [if_pos h1] at hp
        rw [if_pos (by simpa [s1] using h1)]
        have := r1 i p hp
        simpa [Array.getD_eq_getD_getElem?] using this
      · rw [if_neg h1] at hp
        rw [if_neg (by simpa [s1] using h1)]
        rw [List.getElem?_append] at hp
        rw [List.getElem?_append]
        by_cases h2 : i - fa.length < args.length
        · rw [if_pos h2] at hp
          rw [if_pos (by simp [s1]; rw [hal] at h2; simpa using h2)]
          have := g1 (i - fa.length + 1) p (by simpa using hp)
          simp only [List.map_cons, List.getD_cons_succ, List.getD_eq_getElem?_getD] at this
          simpa [s1] using this
        · rw [if_neg h2] at hp
          rw [if_neg (by simp [s1]; rw [hal] at h2; simpa using h2)]
          have := r2 _ p hp
          rw [hal] at this
          simpa [Array.getD_eq_getD_getElem?, s1] using this)
    unfold Oper.wp
    rw [hrun, Oper.upon_enter]
    refine hC.mono ?_
    rintro e w' ⟨v, S', μc, rfl, hb, hS', hlt', hrel, hcrel, htok, hap⟩
    exact hK v w' S' μc hb hS' hlt' hrel hcrel htok hap
theorem call_sound (h : Sim nt w0 S0 E S μ st a w) (hnb : ∀ j, j < 8 → ¬ st.D (nb + j)) {c : Call} {fo : Operand} (ho : o.op = .call c) (hcal : c.callee = .value fo) {f : FuncId} {fa fb args : List PV} {rd : List Nat}
    (hargs : argsE st.H ((fo :: c.args.toList).map (ev st.T)) = some (.clo (.func f) fa fb :: args, rd)) {r : PV} {toks : List (Nat × TypeId × Nat × Nat)} (hc : CallsTo P f (fa ++ args ++ fb) r toks)
    (hflat : (rd = [] ∧ (toks = [] ∨ r.imps = true)) ∨ (r.flat = true ∧ toks = [])) : MovesW P nt w0 S0 E st a w o nb (imp nb r toks) (wrs nb toks) := by
  intro K Q hK
  refine call_core h hnb ho hcal hargs hc ?_
  intro v w' S' μc hb hS' hlt' hrel hcrel htok hap
  have hBc : ∀ nm o, st.H nm = some o → ∀ g, blk (μ nm) = some g → g < w.heap.size := fun nm o hn g hg => (hrel_blk (h.heap nm o hn) g hg).2
  rcases hflat with ⟨rfl, him⟩ | ⟨hfl, rfl⟩
  · have hSn : ∀ b : Addr, plusS S st.H μ [] b → S b := fun b hb => by
      rcases hb with hb | ⟨_, nm, h2, _⟩
      · exact hb
      · cases h2
    have s1 := h.called (S' := S') hb (fun b hb2 => (hS' b (h.slt b hb2).1).2 (.inl hb2)) (fun b hb2 hs => hSn b ((hS' b hb2).1 hs)) hlt'
    rcases him with rfl | him
    · exact hK v w' S' μ (s1.more (D' := moreD st.D nb) (fun m hm => .inl hm)) (.c (hcrel rfl))
    · by_cases htk : toks = []
      · subst htk
        exact hK v w' S' μ (s1.more (D' := moreD st.D nb) (fun m hm => .inl hm)) (.c (hcrel rfl))
      · have e1 : imp nb r toks = ren nb r := by
          cases toks with
          | nil => exact absurd rfl htk
          | cons x xs => rfl
        obtain ⟨s2, _⟩ := take_toks hBc h.below.size hnb toks s1 htok hap
        rw [e1] at hK
        exact hK v w' S' _ s2 (imp_rel hrel him)
  · have s1 := h.called (S' := S) hb (fun _ h => h) (fun _ _ h => h) (fun b hb2 => ⟨Nat.lt_of_lt_of_le (h.slt b hb2).1 hb.size, (h.slt b hb2).2⟩)
    exact hK v w' S μ (s1.more (D' := moreD st.D nb) (fun m hm => .inl hm)) (flat_rel hrel hfl _ _ _ _)
end
end Go.Proofs.YtgagnohelibaoaaDoor
