import Derived.Test.YtgagnohelibaoaaDoorH
/-! Functions that work upon what they are handed. -/
set_option linter.unusedSimpArgs false
set_option linter.unusedVariables false
namespace Go.Proofs.YtgagnohelibaoaaDoor
open Go.RowKit

/-- The names that a value behind such a call may bear. -/
def inN (hn : List Nat) (nb : Nat) : Nat → Prop := fun m => m ∈ hn ∨ (nb ≤ m ∧ m < nb + 8)
/-- How the walk of such a function ends: r is returned, wr left; q tells the names that are new. -/
def EndI (x : Option (List PV)) (r : PV) (wr : List (Nat × Option HObj)) (H H' : Nat → Option HObj) (nb N : Nat) (hn : List Nat) : Prop :=
  ∃ ps q, x = some ps ∧ mapT (phi nb N q) r = tupV ps ∧ okT (inN hn nb) r ∧ (∀ m, m < N → (∀ x ∈ wr, x.1 ≠ m) → ¬ (nb ≤ m ∧ m < nb + 8) → H' m = H m) ∧
    (∀ x ∈ wr, ∀ o, x.2 = some o → H' (phi nb N q x.1) = some (mapO (phi nb N q) o) ∧ okO (inN hn nb) o) ∧ (∀ x ∈ wr, ∀ y ∈ wr, x.2 ≠ none → y.2 ≠ none → nb ≤ x.1 → x.1 < nb + 8 → nb ≤ y.1 → y.1 < nb + 8 → x.1 ≠ y.1 → q (x.1 - nb) ≠ q (y.1 - nb))
def endI (P : Program) (rs : List ResultVar) (r : PV) (wr : List (Nat × Option HObj)) (H : Nat → Option HObj) (nb N : Nat) (hn : List Nat) : Post := fun e T H' _ =>
  match e with
  | .normal => EndI (resV P T H' rs) r wr H H' nb N hn
  | .ret => EndI (resV P T H' rs) r wr H H' nb N hn
  | _ => False
theorem inTo_ofA {P : Program} {f : FuncId} {fn : Func} {c : Code} {nt : Nat} {rs : List ResultVar} (hf : P.funcs[f]? = some fn) (hb : fn.body = some c) (hnt : fn.ntmps = nt) (hrs : fn.results = rs.toArray) (hname : (fn.name == "runtime.NumGoroutine") = false) {args : List PV} (hn : args.length ≤ nt)
    {hs : List (Nat × HObj)} {r : Nat → PV} {wr : Nat → List (Nat × Option HObj)} (hwr : ∀ nb, ∀ x ∈ wr nb, x.1 ∈ hs.map (·.1) ∨ (nb ≤ x.1 ∧ x.1 < nb + 8))
    (h : ∀ (H : Nat → Option HObj) (N nb : Nat), (∀ x ∈ hs, H x.1 = some x.2 ∧ x.1 < N ∧ ¬ (nb ≤ x.1 ∧ x.1 < nb + 8)) → nb + 8 ≤ N → AWp P nt c (endI P rs (r nb) (wr nb) H nb N (hs.map (·.1))) (initT args) H N) : InTo P f args hs r wr := by
  subst hnt
  obtain rfl : rs = fn.results.toList := by rw [hrs]
  refine ⟨by unfold callable; rw [hf]; simp [hb, hname], fun w0 S0 E S μ D H w vs nb hmem ⟨N1, hN1⟩ hnb hhs hl hr => calls_of_wp hf hb ?_⟩
  obtain ⟨N, hN⟩ : ∃ N, N = max N1 (nb + 8) := ⟨_, rfl⟩
  have hDN : ∀ m, D m → belowN N m := fun m hd => by have := hN1 m hd; unfold belowN; omega
  have hnb8 : nb + 8 ≤ N := by omega
  have hdis : ∀ m, D m → ¬ (nb ≤ m ∧ m < nb + 8) := fun m hd hm => by
    have := hnb (m - nb) (by omega)
    rw [show nb + (m - nb) = m by omega] at this
    exact this hd
  have hHD : ∀ m o, H m = some o → D m := fun m o ho => by
    by_cases hd : D m
    · exact hd
    · rw [hmem.fresh m hd] at ho; cases ho
  have hsD : ∀ x ∈ hs, D x.1 := fun x hx => hHD _ _ (hhs x hx)
  have hstart : Sim fn.ntmps w0 S0 E S μ ⟨initT args, H, belowN N⟩ { tmps := vs.toArray ++ Array.replicate (fn.ntmps - vs.toArray.size) undef, defers := [] } w := by
    refine ⟨rfl, by simp; omega, fun i => ?_, fun p hp => (hmem.extra p hp).mono (fun _ h => h) (fun _ _ => rfl) hDN (fun _ _ => rfl), fun nm o ho => (hmem.heap nm o ho).keep (fun _ h => h) (fun _ _ => rfl) hDN (fun _ _ => rfl) (hHD nm o ho) (Nat.le_refl _) (fun g _ => ⟨rfl, fun _ _ h => h⟩), hmem.apart, fun nm hnm => hmem.fresh nm (fun hd => hnm (hDN nm hd)), hmem.below, hmem.s0, hmem.slt, fun m hm => hDN m (hmem.low m hm), hmem.good⟩
    show Rel _ _ _ _ (initT args i) _
    unfold initT
    cases hi : args[i]? with
    | none => rw [List.getD_eq_getElem?_getD, hi]; exact .c (.undef _)
    | some p =>
      have h1 := hr i p hi
      have hlt := (List.getElem?_eq_some_iff.1 hi).1
      rw [List.getD_eq_getElem?_getD, hi]
      have : (vs.toArray ++ Array.replicate (fn.ntmps - vs.toArray.size) undef).getD i undef = vs.getD i undef := by
        rw [Array.getD_eq_getD_getElem?, Array.getElem?_append_left (by simpa [hl] using hlt)]
        simp [List.getD_eq_getElem?_getD]
      rw [this]
      exact h1.mono (fun _ h => h) (fun _ _ => rfl) hDN (fun _ _ => rfl)
  have hwalk := h H N nb (fun x hx => ⟨hhs x hx, hDN _ (hsD x hx), hdis _ (hsD x hx)⟩) hnb8
  refine wp_mono (hwalk w0 S0 E S μ _ w hstart) fun e a' w' ⟨S', μ', T', H', N', hsim, hq, _⟩ => ?_
  have fin : EndI (resV P T' H' fn.results.toList) (r nb) (wr nb) H H' nb N (hs.map (·.1)) → a'.defers = [] ∧ ∃ v, (results fn a'.tmps).run P w' = .ok v w' ∧ ∃ v_1 S'_1 μ', Ending.returned v = Ending.returned v_1 ∧ Mem w0 S0 E S'_1 μ' (moreD D nb) (applyW H (wr nb)) w' ∧ Rel S'_1 μ' (moreD D nb) w' (r nb) v_1 := by
    rintro ⟨ps, q, h1, h2, h3, h4, h5, h6⟩
    obtain ⟨v, hv, hrel⟩ := results_run hsim h1
    rw [← h2] at hrel
    have hφD : ∀ m, D m → phi nb N q m = m := fun m hd => phi_old (hdis m hd)
    have hQD : ∀ m, inN (hs.map (·.1)) nb m → moreD D nb m := fun m hm => by
      rcases hm with hm | hm
      · obtain ⟨x, hx, rfl⟩ := List.mem_map.1 hm
        exact .inl (hsD x hx)
      · exact .inr hm
    have hQ2 : ∀ m, inN (hs.map (·.1)) nb m → 2 ≤ m → 2 ≤ phi nb N q m := fun m hm h2 => by
      rcases hm with hm | hm
      · obtain ⟨x, hx, rfl⟩ := List.mem_map.1 hm
        rw [hφD _ (hsD x hx)]
        exact h2
      · have : phi nb N q m = N + q (m - nb) := if_pos hm
        omega
    have hnew : ∀ m, nb ≤ m → m < nb + 8 → N ≤ phi nb N q m := fun m h1 h2 => by
      have : phi nb N q m = N + q (m - nb) := if_pos ⟨h1, h2⟩
      omega
    have old : ∀ {p : PV} {v u : Value}, Rel S μ D w p u → Rel S' μ' (belowN N') w' p v → Rel S' (fun m => μ' (phi nb N q m)) (moreD D nb) w' p v := fun h0 h' =>
      (rel_sub h0 h').mono (fun _ h => h) (fun _ _ => rfl) (fun m hd => .inl hd) (fun m hd => by show μ' (phi nb N q m) = μ' m; rw [hφD m hd])
    have hget : ∀ m o, applyW H (wr nb) m = some o → ((m, some o) ∈ wr nb ∧ H' (phi nb N q m) = some (mapO (phi nb N q) o)) ∨ ((∀ x ∈ wr nb, x.1 ≠ m) ∧ H m = some o ∧ D m ∧ H' m = some o) := fun m o ho => by
      rcases applyW_get ho with hw | ⟨hw, ho'⟩
      · exact .inl ⟨hw, (h5 _ hw o rfl).1⟩
      · have hd := hHD m o ho'
        exact .inr ⟨hw, ho', hd, by rw [h4 m (hDN m hd) hw (hdis m hd)]; exact ho'⟩
    refine ⟨hsim.defers, v, hv, v, S', fun m => μ' (phi nb N q m), rfl, ⟨fun p hp => old (hmem.extra p hp) (hsim.extra p hp), fun m o ho => ?_, fun m m' o o' ho ho' hne g hg hg' => ?_, fun m hm => ?_, hsim.below, hsim.s0, hsim.slt, fun m hm => .inl (hmem.low m hm), hsim.good⟩, relT_un hrel hQD h3 hQ2⟩
    · rcases hget m o ho with ⟨hw, hH'⟩ | ⟨hw, ho', hd, hH'⟩
      · have hk := h5 _ hw o rfl
        refine hrel_un (hsim.heap _ _ hH') hQD hk.2 hQ2 (fun hex => ?_)
        rcases hwr nb _ hw with hin | hin
        · obtain ⟨x, hx, e⟩ := List.mem_map.1 hin
          simp only at e
          have hd : D m := by rw [← e]; exact hsD x hx
          obtain ⟨e1, k1, n1, rfl⟩ := hex
          have hh := hsim.heap _ _ hH'
          rw [hφD m hd] at hh
          obtain ⟨_, h2', _⟩ := hh
          exact h2'
        · have h2' : 2 ≤ nb := by
            rcases Nat.lt_or_ge nb 2 with hlt | hge
            · have := hnb 0 (by omega)
              exact absurd (hmem.low nb hlt) this
            · exact hge
          omega
      · have hh := hrel_sub (hmem.heap m o ho') (hsim.heap m o hH')
        have hk := hh.keep (S' := S') (μ' := fun m => μ' (phi nb N q m)) (D' := moreD D nb) (fun _ h => h) (fun _ _ => rfl) (fun m hd => .inl hd) (fun m hd => by show μ' (phi nb N q m) = μ' m; rw [hφD m hd]) hd (Nat.le_refl _) (fun g _ => ⟨rfl, fun _ _ h => h⟩)
        exact hk
    · have loc : ∀ m o, applyW H (wr nb) m = some o → ∃ o', H' (phi nb N q m) = some o' := fun m o ho => by
        rcases hget m o ho with ⟨hw, hH'⟩ | ⟨hw, ho', hd, hH'⟩
        · exact ⟨_, hH'⟩
        · exact ⟨_, by rw [hφD m hd]; exact hH'⟩
      obtain ⟨o1, ho1⟩ := loc m o ho
      obtain ⟨o2, ho2⟩ := loc m' o' ho'
      have cls : ∀ m o, applyW H (wr nb) m = some o → D m ∨ ((m, some o) ∈ wr nb ∧ nb ≤ m ∧ m < nb + 8) := fun m o ho => by
        rcases hget m o ho with ⟨hw, _⟩ | ⟨_, _, hd, _⟩
        · rcases hwr nb _ hw with hin | hin
          · obtain ⟨x, hx, e⟩ := List.mem_map.1 hin
            simp only at e
            exact .inl (by rw [← e]; exact hsD x hx)
          · exact .inr ⟨hw, hin⟩
        · exact .inl hd
      refine hsim.apart _ _ o1 o2 ho1 ho2 ?_ g hg hg'
      rcases cls m o ho with hd | ⟨hw, hb1, hb2⟩
      · rcases cls m' o' ho' with hd' | ⟨hw', hb1', hb2'⟩
        · rw [hφD m hd, hφD m' hd']; exact hne
        · rw [hφD m hd]
          have := hnew m' hb1' hb2'
          have : m < N := hDN m hd
          omega
      · rcases cls m' o' ho' with hd' | ⟨hw', hb1', hb2'⟩
        · rw [hφD m' hd']
          have := hnew m hb1 hb2
          have : m' < N := hDN m' hd'
          omega
        · have hq := h6 _ hw _ hw' (by simp) (by simp) hb1 hb2 hb1' hb2' hne
          have e1 : phi nb N q m = N + q (m - nb) := if_pos ⟨hb1, hb2⟩
          have e2 : phi nb N q m' = N + q (m' - nb) := if_pos ⟨hb1', hb2'⟩
          simp only at hq
          omega
    · have : ∀ x ∈ wr nb, x.1 ≠ m := fun x hx e => by
        rcases hwr nb x hx with hin | hin
        · obtain ⟨y, hy, e'⟩ := List.mem_map.1 hin
          exact hm (.inl (by rw [← e, ← e']; exact hsD y hy))
        · exact hm (.inr (by rw [← e]; exact hin))
      rw [applyW_no this]
      exact hmem.fresh m (fun hd => hm (.inl hd))
  cases e with
  | normal => exact fin hq
  | ret => exact fin hq
  | _ => exact hq.elim
theorem inTo_of {P : Program} (hm : P.follows .mixedOrders = true) {f : FuncId} {fn : Func} {c : Code} {nt : Nat} {rs : List ResultVar} (hf : P.funcs[f]? = some fn) (hb : fn.body = some c) (hnt : fn.ntmps = nt) (hrs : fn.results = rs.toArray) (hname : (fn.name == "runtime.NumGoroutine") = false) (hok : codeOK nt c = true) {args : List PV} (hn : args.length ≤ nt)
    {hs : List (Nat × HObj)} {r : Nat → PV} {wr : Nat → List (Nat × Option HObj)} (hwr : ∀ nb, ∀ x ∈ wr nb, x.1 ∈ hs.map (·.1) ∨ (nb ≤ x.1 ∧ x.1 < nb + 8)) (M : List Nat)
    (h : ∀ (H : Nat → Option HObj) (N nb : Nat), (∀ x ∈ hs, H x.1 = some x.2 ∧ x.1 < N ∧ ¬ (nb ≤ x.1 ∧ x.1 < nb + 8)) → nb + 8 ≤ N → wpc P M nt c (endI P rs (r nb) (wr nb) H nb N (hs.map (·.1))) (initT args) H N) : InTo P f args hs r wr :=
  inTo_ofA hf hb hnt hrs hname hn hwr fun H N nb hH hN => wpc_sound hm c _ _ _ _ hok (h H N nb hH hN)
end Go.Proofs.YtgagnohelibaoaaDoor
