import Derived.Test.YtgagnohelibaoaaDoorC
/-! Calls that work upon what they are handed; a new slice taken over as a box. -/
set_option linter.unusedSimpArgs false
set_option linter.unusedVariables false
namespace Go.Proofs.YtgagnohelibaoaaDoor
open Go.RowKit

/-- Memory as an activation's, without the activation. -/
structure Mem (w0 : World) (S0 : Addr → Prop) (E : List (PV × Value)) (S : Addr → Prop) (μ : Nat → Value) (D : Nat → Prop) (H : Nat → Option HObj) (w : World) : Prop where
  extra : ∀ p ∈ E, Rel S μ D w p.1 p.2
  heap : ∀ nm o, H nm = some o → HRel w0.heap.size S μ D w nm o
  apart : ∀ nm nm' o o', H nm = some o → H nm' = some o' → nm ≠ nm' → ∀ g, blk (μ nm) = some g → blk (μ nm') ≠ some g
  fresh : ∀ nm, ¬ D nm → H nm = none
  below : Below w0.heap.size w0 w
  s0 : ∀ a : Addr, a.block < w0.heap.size → (S a ↔ S0 a)
  slt : ∀ a : Addr, S a → a.block < w.heap.size ∧ a.spot = none
  low : ∀ m, m < 2 → D m
  good : Good w0
/-- Names are told anew. -/
def phi (nb N : Nat) (q : Nat → Nat) : Nat → Nat := fun m => if nb ≤ m ∧ m < nb + 8 then N + q (m - nb) else m
theorem phi_old {nb N : Nat} {q : Nat → Nat} {m : Nat} (h : ¬ (nb ≤ m ∧ m < nb + 8)) : phi nb N q m = m := if_neg h
theorem phi_new {nb N : Nat} {q : Nat → Nat} {j : Nat} (h : j < 8) : phi nb N q (nb + j) = N + q j := by
  unfold phi
  rw [if_pos ⟨by omega, by omega⟩]
  congr 2
  omega
def mapC (φ : Nat → Nat) : PV → PV
  | .sl t xs => if t < 2 then .sl t xs else .sl (φ t) xs
  | .ptr nm off => .ptr (φ nm) off
  | .bs nm off k n m => .bs (φ nm) off k n m
  | .mp nm => .mp (φ nm)
  | p => p
def map1 (φ : Nat → Nat) : PV → PV
  | .agg cs => .agg (cs.map (mapC φ))
  | .clo f a b => .clo f (a.map (mapC φ)) (b.map (mapC φ))
  | p => mapC φ p
def mapT (φ : Nat → Nat) : PV → PV
  | .tup cs => .tup (cs.map (map1 φ))
  | p => map1 φ p
def mapO (φ : Nat → Nat) : HObj → HObj
  | .box cs => .box (cs.map (mapC φ))
  | .tok e k n => .tok e k n
  | .map es => .map (es.map fun e => (map1 φ e.1, map1 φ e.2))
  | .siter s pos => .siter s pos
  | .raw v o => .raw v o
def okC (Q : Nat → Prop) : PV → Prop
  | .sl t _ => 2 ≤ t → Q t
  | .ptr nm _ => Q nm
  | .bs nm _ _ _ _ => Q nm
  | .mp nm => Q nm
  | .clo _ _ _ => False
  | .agg _ => False
  | .tup _ => False
  | _ => True
def ok1 (Q : Nat → Prop) : PV → Prop
  | .agg cs => ∀ p ∈ cs, okC Q p
  | .clo _ a b => (∀ p ∈ a, okC Q p) ∧ ∀ p ∈ b, okC Q p
  | p => okC Q p
def okT (Q : Nat → Prop) : PV → Prop
  | .tup cs => ∀ p ∈ cs, ok1 Q p
  | p => ok1 Q p
def okO (Q : Nat → Prop) : HObj → Prop
  | .box cs => ∀ p ∈ cs, okC Q p
  | .tok _ _ _ => True
  | .map es => ∀ e ∈ es, ok1 Q e.1 ∧ ok1 Q e.2
  | .siter _ _ => True
  | .raw _ _ => True

section
variable {S S' : Addr → Prop} {μ μ' : Nat → Value} {D D' Q : Nat → Prop} {w w' : World} {φ : Nat → Nat}
/-- What no name is needed for, told in another memory. -/
theorem crel_sub {p : PV} {v : Value} (h : CRel S w p v) : ∀ {v' : Value}, Rel S' μ' D' w' p v' → CRel S' w' p v' := by
  induction h with
  | undef v => intro v' _; exact .undef _
  | bool b => intro v' h'; cases h' with | c h' => exact h'
  | int k n => intro v' h'; cases h' with | c h' => exact h'
  | str l => intro v' h'; cases h' with | c h' => exact h'
  | lit x => intro v' h'; cases h' with | c h' => exact h'
  | sl t xs A c k u ht h0 hn hc hm hk hone hcell hrel ih =>
    intro v' h'
    cases h' with
    | c h' => exact h'
    | tok _ _ _ h2 _ _ _ => omega
  | iptr cs ad u hone hcell hrel ih => intro v' h'; cases h' with | c h' => exact h'
  | clo f fst cap fs cs h1 h2 r1 r2 i1 i2 =>
    intro v' h'
    cases h' with
    | c h' => exact h'
    | clo _ _ _ fs' cs' h1' h2' r1' r2' => exact .clo f fst cap fs' cs' h1' h2' (fun i p hp => i1 i p hp (r1' i p hp)) (fun i p hp => i2 i p hp (r2' i p hp))
  | agg cs arr hs h ih =>
    intro v' h'
    cases h' with
    | c h' => exact h'
    | agg _ arr' hs' hr' => exact .agg cs arr' hs' fun i p hp => ih i p hp (hr' i p hp)
  | tup cs arr hs h ih =>
    intro v' h'
    cases h' with
    | c h' => exact h'
    | tup _ arr' hs' hr' => exact .tup cs arr' hs' fun i p hp => ih i p hp (hr' i p hp)
/-- The names are those that were there. -/
theorem rel_sub {p : PV} {v : Value} (h : Rel S μ D w p v) : ∀ {v' : Value}, Rel S' μ' D' w' p v' → Rel S' μ' D w' p v' := by
  induction h with
  | c h => intro v' h'; exact .c (crel_sub h h')
  | tok t xs v h2 hx hv h =>
    intro v' h'
    cases h' with
    | c h' => exact .c h'
    | tok _ _ _ h2' hx' hv' h' => exact .tok t xs v' h2 hx hv' h'
  | ptr nm off g hx hg =>
    intro v' h'
    cases h' with
    | c h' => exact .c h'
    | ptr _ _ g' hx' hg' => exact .ptr nm off g' hx hg'
  | clo f fst cap fs cs h1 h2 r1 r2 i1 i2 =>
    intro v' h'
    cases h' with
    | c h' => exact .c h'
    | clo _ _ _ fs' cs' h1' h2' r1' r2' => exact .clo f fst cap fs' cs' h1' h2' (fun i p hp => i1 i p hp (r1' i p hp)) (fun i p hp => i2 i p hp (r2' i p hp))
  | agg cs arr hs h ih =>
    intro v' h'
    cases h' with
    | c h' => exact .c h'
    | agg _ arr' hs' hr' => exact .agg cs arr' hs' fun i p hp => ih i p hp (hr' i p hp)
  | tup cs arr hs h ih =>
    intro v' h'
    cases h' with
    | c h' => exact .c h'
    | tup _ arr' hs' hr' => exact .tup cs arr' hs' fun i p hp => ih i p hp (hr' i p hp)
  | bs nm off k n m g o c hx hg ho hn hm hc =>
    intro v' h'
    cases h' with
    | c h' => exact .c h'
    | bs _ _ _ _ _ g' o' c' hx' hg' ho' hn' hm' hc' => exact .bs nm off k n m g' o' c' hx hg' ho' hn' hm' hc'
  | mp nm g hx hg =>
    intro v' h'
    cases h' with
    | c h' => exact .c h'
    | mp _ g' hx' hg' => exact .mp nm g' hx hg'
theorem hrel_sub {B : Nat} {nm : Nat} {o : HObj} (h : HRel B S μ D w nm o) (h' : HRel B S' μ' D' w' nm o) : HRel B S' μ' D w' nm o := by
  cases o with
  | box cs =>
    obtain ⟨g, _, _, _, h4, _⟩ := h
    obtain ⟨g', k1, k2, k3, k4, k5, k6⟩ := h'
    refine ⟨g', k1, k2, k3, fun j p hp => ?_, k5, k6⟩
    obtain ⟨u, hu, hr⟩ := k4 j p hp
    obtain ⟨_, _, hr0⟩ := h4 j p hp
    exact ⟨u, hu, rel_sub hr0 hr⟩
  | map es =>
    obtain ⟨es1, he1, g, arr, clk, _, _, _, _, _, h6, _⟩ := h
    obtain ⟨es2, he2, g', arr', clk', k1, k2, k3, k4, k5, k6, k7⟩ := h'
    refine ⟨es2, he2, g', arr', clk', k1, k2, k3, k4, k5, fun i e hi => ?_, k7⟩
    obtain ⟨x, hx, r1, r2⟩ := k6 i e hi
    obtain ⟨j, hj⟩ := List.getElem?_of_mem ((he1.1.trans he2.1.symm).mem_iff.2 (List.mem_of_getElem? hi))
    obtain ⟨_, _, s1, s2⟩ := h6 j e hj
    exact ⟨x, hx, rel_sub s1 r1, rel_sub s2 r2⟩
  | tok e k n => exact h'
  | siter s pos => exact h'
  | raw v o => exact h'
/-- A value whose names were told anew. -/
theorem relC_un {p : PV} {v : Value} (h : Rel S μ' D' w (mapC φ p) v) (h2 : ∀ m, Q m → D m) (hq : okC Q p) (hφ : ∀ m, Q m → 2 ≤ m → 2 ≤ φ m) : Rel S (fun m => μ' (φ m)) D w p v := by
  cases p with
  | sl t xs =>
    unfold mapC at h
    simp only at h
    split at h
    · rename_i hlt
      cases h with
      | c h => exact .c h
      | tok _ _ _ h3 _ _ _ => omega
    · rename_i hge
      have hq' := hq (by omega)
      have h4 := hφ t hq' (by omega)
      cases h with
      | c h =>
        exfalso
        cases h
        omega
      | tok _ _ _ h3 hx hv h => exact .tok t xs v (by omega) (h2 t hq') hv h
  | ptr nm off =>
    obtain ⟨g, e, _, hg⟩ := rel_ptr h
    subst e
    exact .ptr nm off g (h2 nm hq) hg
  | bs nm off k n m =>
    obtain ⟨g, o, c, e, _, hg, ho, hn, hm, hc⟩ := rel_bs h
    subst e
    exact .bs nm off k n m g o c (h2 nm hq) hg ho hn hm hc
  | mp nm =>
    obtain ⟨g, e, _, hg⟩ := rel_mp h
    subst e
    exact .mp nm g (h2 nm hq) hg
  | clo f a b => exact hq.elim
  | agg cs => exact hq.elim
  | tup cs => exact hq.elim
  | _ => cases h with | c h => exact .c h
theorem rel1_un {p : PV} {v : Value} (h : Rel S μ' D' w (map1 φ p) v) (h2 : ∀ m, Q m → D m) (hq : ok1 Q p) (hφ : ∀ m, Q m → 2 ≤ m → 2 ≤ φ m) : Rel S (fun m => μ' (φ m)) D w p v := by
  cases p with
  | agg cs =>
    obtain ⟨arr, rfl, hs, hr⟩ := rel_agg h
    refine .agg cs arr (by simpa using hs) fun i p hp => ?_
    exact relC_un (hr i (mapC φ p) (by rw [List.getElem?_map, hp]; rfl)) h2 (hq p (List.mem_of_getElem? hp)) hφ
  | clo f a b =>
    obtain ⟨fs, cs, rfl, s1, s2, r1, r2⟩ := rel_clo h
    refine .clo f a b fs cs (by simpa using s1) (by simpa using s2) (fun i p hp => ?_) (fun i p hp => ?_)
    · exact relC_un (r1 i (mapC φ p) (by rw [List.getElem?_map, hp]; rfl)) h2 (hq.1 p (List.mem_of_getElem? hp)) hφ
    · exact relC_un (r2 i (mapC φ p) (by rw [List.getElem?_map, hp]; rfl)) h2 (hq.2 p (List.mem_of_getElem? hp)) hφ
  | _ => exact relC_un h h2 hq hφ
theorem relT_un {p : PV} {v : Value} (h : Rel S μ' D' w (mapT φ p) v) (h2 : ∀ m, Q m → D m) (hq : okT Q p) (hφ : ∀ m, Q m → 2 ≤ m → 2 ≤ φ m) : Rel S (fun m => μ' (φ m)) D w p v := by
  cases p with
  | tup cs =>
    obtain ⟨arr, rfl, hs, hr⟩ := rel_tup h
    refine .tup cs arr (by simpa using hs) fun i p hp => ?_
    exact rel1_un (hr i (map1 φ p) (by rw [List.getElem?_map, hp]; rfl)) h2 (hq p (List.mem_of_getElem? hp)) hφ
  | _ => exact rel1_un h h2 hq hφ
theorem perm_map {α β : Type} (f : α → β) {l m : List β} (h : l.Perm m) : ∀ es : List α, m = es.map f → ∃ es' : List α, l = es'.map f ∧ es'.Perm es := by
  induction h with
  | nil => intro es he; exact ⟨[], rfl, by rw [List.map_eq_nil_iff.1 he.symm]⟩
  | cons x hp ih =>
    intro es he
    cases es with
    | nil => cases he
    | cons a es =>
      simp only [List.map_cons, List.cons.injEq] at he
      obtain ⟨es', h1, h2⟩ := ih es he.2
      exact ⟨a :: es', by simp [he.1, h1], h2.cons a⟩
  | swap x y l =>
    intro es he
    rcases es with _ | ⟨a, _ | ⟨b, es⟩⟩
    · cases he
    · simp at he
    · simp only [List.map_cons, List.cons.injEq] at he
      exact ⟨b :: a :: es, by simp [he.1, he.2.1, he.2.2], .swap a b es⟩
  | trans h1 h2 ih1 ih2 =>
    intro es he
    obtain ⟨es1, k1, k2⟩ := ih2 es he
    obtain ⟨es2, k3, k4⟩ := ih1 es1 k1
    exact ⟨es2, k3, k4.trans k2⟩
theorem hrel_un {B : Nat} {nm : Nat} {o : HObj} (h : HRel B S μ' D' w (φ nm) (mapO φ o)) (h2 : ∀ m, Q m → D m) (hq : okO Q o) (hφ : ∀ m, Q m → 2 ≤ m → 2 ≤ φ m) (hnm : (∃ e k n, o = .tok e k n) → 2 ≤ nm) : HRel B S (fun m => μ' (φ m)) D w nm o := by
  cases o with
  | box cs =>
    obtain ⟨g, h1, h3, h4, h5, h6, h7⟩ := h
    refine ⟨g, h1, h3, h4, fun j p hp => ?_, fun j hj => h6 j (by simpa using hj), h7⟩
    obtain ⟨u, hu, hr⟩ := h5 j (mapC φ p) (by rw [List.getElem?_map, hp]; rfl)
    exact ⟨u, hu, relC_un hr h2 (hq p (List.mem_of_getElem? hp)) hφ⟩
  | map es =>
    obtain ⟨es1, ⟨hp, hnd⟩, g, arr, clk, h1, h3, h4, h5, h6, h7, h8⟩ := h
    obtain ⟨es2, rfl, hp2⟩ := perm_map (fun e : PV × PV => (map1 φ e.1, map1 φ e.2)) hp es rfl
    refine ⟨es2, ⟨hp2, ?_⟩, g, arr, clk, h1, h3, h4, h5, by simpa using h6, fun i e hi => ?_, h8⟩
    · rw [List.map_map] at hnd
      rw [List.nodup_iff_pairwise_ne, List.pairwise_map] at hnd ⊢
      exact hnd.imp fun hne e => hne (by simp only [Function.comp_apply]; rw [e])
    obtain ⟨x, hx, r1, r2⟩ := h7 i (map1 φ e.1, map1 φ e.2) (by rw [List.getElem?_map, hi]; rfl)
    have hqe := hq e (hp2.mem_iff.1 (List.mem_of_getElem? hi))
    exact ⟨x, hx, rel1_un r1 h2 hqe.1 hφ, rel1_un r2 h2 hqe.2 hφ⟩
  | tok e k n =>
    obtain ⟨vs, h1, h3, h4⟩ := h
    exact ⟨vs, hnm ⟨e, k, n, rfl⟩, h3, h4⟩
  | siter s pos => exact h
  | raw v o => exact h
theorem rel_undef {p : PV} (h : Rel S μ D w p undef) : Rel S' μ' D' w' p undef := by
  generalize hu : undef = v at h
  cases h with
  | c h =>
    cases h with
    | undef v => subst hu; exact .c (.undef _)
    | lit x => subst hu; exact .c (.lit _)
    | tup cs arr hs h =>
      cases hu
      have : cs = [] := List.eq_nil_of_length_eq_zero (by simpa using hs.symm)
      subst this
      exact .c (.tup [] #[] rfl (fun i p hp => by simp at hp))
    | _ => cases hu
  | tok t xs v h2 hx hv h => subst hu; cases h
  | tup cs arr hs h =>
    cases hu
    have : cs = [] := List.eq_nil_of_length_eq_zero (by simpa using hs.symm)
    subst this
    exact .c (.tup [] #[] rfl (fun i p hp => by simp at hp))
  | _ => cases hu
theorem applyW_get {H : Nat → Option HObj} : ∀ {wr : List (Nat × Option HObj)} {m : Nat} {o : HObj}, applyW H wr m = some o → (m, some o) ∈ wr ∨ ((∀ x ∈ wr, x.1 ≠ m) ∧ H m = some o)
  | [], m, o, h => .inr ⟨(fun x hx => by cases hx), h⟩
  | (n, x) :: wr, m, o, h => by
    rcases applyW_get (H := upd H n x) (wr := wr) h with h1 | ⟨h1, h2⟩
    · exact .inl (by simp [h1])
    · by_cases e : m = n
      · subst e
        rw [upd_same] at h2
        subst h2
        exact .inl (by simp)
      · rw [upd_ne _ _ e] at h2
        exact .inr ⟨fun y hy => by
          rcases List.mem_cons.1 hy with rfl | hy
          · exact fun e' => e e'.symm
          · exact h1 y hy, h2⟩
theorem applyW_no {H : Nat → Option HObj} : ∀ {wr : List (Nat × Option HObj)} {m : Nat}, (∀ x ∈ wr, x.1 ≠ m) → applyW H wr m = H m
  | [], m, h => rfl
  | (n, x) :: wr, m, h => by
    show applyW (upd H n x) wr m = _
    rw [applyW_no (fun y hy => h y (by simp [hy])), upd_ne _ _ (fun e => h (n, x) (by simp) e.symm)]
end

/-- A call of f that works upon what it is handed (hs): it returns r, and leaves wr. -/
def InTo (P : Program) (f : FuncId) (args : List PV) (hs : List (Nat × HObj)) (r : Nat → PV) (wr : Nat → List (Nat × Option HObj)) : Prop :=
  callable P f = true ∧ ∀ (w0 : World) (S0 : Addr → Prop) (E : List (PV × Value)) (S : Addr → Prop) (μ : Nat → Value) (D : Nat → Prop) (H : Nat → Option HObj) (w : World) (vs : List Value) (nb : Nat),
    Mem w0 S0 E S μ D H w → (∃ N, ∀ m, D m → m < N) → (∀ j, j < 8 → ¬ D (nb + j)) → (∀ x ∈ hs, H x.1 = some x.2) → vs.length = args.length → (∀ (i : Nat) p, args[i]? = some p → Rel S μ D w p (vs.getD i undef)) →
    Calls P f vs.toArray w fun e w' => ∃ v S' μ', e = .returned v ∧ Mem w0 S0 E S' μ' (moreD D nb) (applyW H (wr nb)) w' ∧ Rel S' μ' (moreD D nb) w' (r nb) v

section
variable {P : Program} {nt : Nat} {w0 : World} {S0 : Addr → Prop} {E : List (PV × Value)} {S S' : Addr → Prop} {μ : Nat → Value} {st : St} {a : Act} {w w' : World} {r : Res} {o : Oper} {nb : Nat}
theorem Sim.mem (h : Sim nt w0 S0 E S μ st a w) : Mem w0 S0 (E ++ (List.range nt).map fun i => (st.T i, a.tmps.getD i undef)) S μ st.D st.H w :=
  ⟨(fun p hp => by
    rcases List.mem_append.1 hp with hp | hp
    · exact h.extra p hp
    · obtain ⟨i, _, rfl⟩ := List.mem_map.1 hp
      exact h.tmps i), h.heap, h.apart, h.fresh, h.below, h.s0, h.slt, h.low, h.good⟩
theorem Mem.sim {S' : Addr → Prop} {μ' : Nat → Value} {D' : Nat → Prop} {H' : Nat → Option HObj} (h : Sim nt w0 S0 E S μ st a w) (hm : Mem w0 S0 (E ++ (List.range nt).map fun i => (st.T i, a.tmps.getD i undef)) S' μ' D' H' w') : Sim nt w0 S0 E S' μ' { T := st.T, H := H', D := D' } a w' := by
  refine ⟨h.defers, h.size, fun i => ?_, fun p hp => hm.extra p (by simp [hp]), hm.heap, hm.apart, hm.fresh, hm.below, hm.s0, hm.slt, hm.low, hm.good⟩
  by_cases hi : i < nt
  · exact hm.extra (st.T i, a.tmps.getD i undef) (List.mem_append_right _ (List.mem_map.2 ⟨i, List.mem_range.2 hi, rfl⟩))
  · have e : a.tmps.getD i undef = undef := by
      have : ¬ i < a.tmps.size := by rw [h.size]; exact hi
      simp [this]
    have h1 := h.tmps i
    rw [e] at h1 ⊢
    exact rel_undef h1
/-- An operation that calls so. -/
theorem in_sound (h : Sim nt w0 S0 E S μ st a w) (hbd : ∃ N, ∀ m, st.D m → m < N) (hnb : ∀ j, j < 8 → ¬ st.D (nb + j)) {c : Call} {fo : Operand} (ho : o.op = .call c) (hcal : c.callee = .value fo) {f : FuncId} {fa fb args : List PV} {hs : List (Nat × HObj)}
    {ps : List PV} {rf : PV} (hvals : ∃ qf qs, (rf = .clo (.func f) fa fb ∧ Rel S μ st.D w rf (a.eval fo)) ∧ qs.length = c.args.toList.length ∧ (∀ (i : Nat) p, qs[i]? = some p → Rel S μ st.D w p ((c.args.toList.map a.eval).getD i undef)) ∧ qs = args ∧ qf = rf)
    {rr : Nat → PV} {wr : Nat → List (Nat × Option HObj)} (hc : InTo P f (fa ++ args ++ fb) hs rr wr) (hhs : ∀ x ∈ hs, st.H x.1 = some x.2) : MovesW P nt w0 S0 E st a w o nb (rr nb) (wr nb) := by
  intro K Q hK
  obtain ⟨qf, qs, ⟨hrf, hfv⟩, hql, hqr, rfl, _⟩ := hvals
  obtain ⟨hcall, hcalls⟩ := hc
  rw [hrf] at hfv
  obtain ⟨fs, cs, hv, s1, s2, r1, r2⟩ := rel_clo hfv
  obtain ⟨vs, hvs⟩ : ∃ vs, vs = fs.toList ++ c.args.toList.map a.eval ++ cs.toList := ⟨_, rfl⟩
  have hrun : (execOp a.eval o).run P w = .ok (.enter f vs.toArray) w := by
    unfold execOp
    unfold callable at hcall
    simp only [ho, resolve, hcal, hv, Deferred.ofValue, Sem.run_bind, Sem.run_pure, Result.andThen_ok, invoke, callFunc, run_program]
    split at hcall
    · rename_i fn hfn
      simp only [Bool.and_eq_true, Bool.not_eq_true'] at hcall
      have hb : fn.body.isNone = false := by
        cases hbb : fn.body with
        | none => rw [hbb] at hcall; simp at hcall
        | some _ => rfl
      simp only [hfn, hcall.2, hb, Bool.false_eq_true, if_false, Sem.run_pure]
      congr 2
      apply Array.ext'
      rw [hvs]
      simp
    · cases hcall
  have hC := hcalls w0 S0 _ S μ st.D st.H w vs nb h.mem hbd hnb hhs (by rw [hvs]; simp [s1, s2, hql]) (fun i p hp => by
    rw [hvs, List.getD_eq_getElem?_getD]
    rw [List.append_assoc, List.getElem?_append] at hp
    rw [List.append_assoc, List.getElem?_append]
    by_cases h1 : i < fa.length
    · rw [if_pos h1] at hp
      rw [if_pos (by simpa [s1] using h1)]
      have := r1 i p hp
      simpa [Array.getD_eq_getD_getElem?] using this
    · rw [if_neg h1] at hp
      rw [if_neg (by simpa [s1] using h1)]
      rw [List.getElem?_append] at hp
      rw [List.getElem?_append]
      by_cases h2 : i - fa.length < qs.length
      · rw [if_pos h2] at hp
        rw [if_pos (by simp [s1]; rw [hql] at h2; simpa using h2)]
        have := hqr (i - fa.length) p hp
        simp only [List.getD_eq_getElem?_getD] at this
        simpa [s1] using this
      · rw [if_neg h2] at hp
        rw [if_neg (by simp [s1]; rw [hql] at h2; simpa using h2)]
        have := r2 _ p hp
        rw [hql] at this
        simpa [Array.getD_eq_getD_getElem?, s1] using this)
  unfold Oper.wp
  rw [hrun, Oper.upon_enter]
  refine hC.mono ?_
  rintro e w' ⟨v, S', μ', rfl, hm, hr⟩
  exact hK v w' S' μ' (Mem.sim h hm) hr
/-- Values that stay what they are wherever they are read. -/
def plainP : PV → Bool
  | .bool _ => true
  | .int _ _ => true
  | .str _ => true
  | _ => false
theorem plain_rel {S : Addr → Prop} {μ : Nat → Value} {D : Nat → Prop} {w : World} {p : PV} {v : Value} (hp : plainP p = true) (h : CRel S w p v) : Rel S' μ D w' p v := by
  cases h <;> first | cases hp; done | skip
  · exact .c (.bool _)
  · exact .c (.int _ _)
  · exact .c (.str _)
/-- A new slice is taken over as a box. -/
theorem thaw_sound (h : Sim nt w0 S0 E S μ st a w) (hnb : ∀ j, j < 8 → ¬ st.D (nb + j)) {c : Call} {fo : Operand} (ho : o.op = .call c) (hcal : c.callee = .value fo) {f : FuncId} {fa fb args : List PV}
    (hargs : argsE st.H ((fo :: c.args.toList).map (ev st.T)) = some (.clo (.func f) fa fb :: args, [])) {xs : List (List PV)} {e : TypeId} {k n : Nat} (hc : CallsTo P f (fa ++ args ++ fb) (.sl 2 xs) [(2, e, k, n)])
    (hn : n = xs.length ∧ 0 < n ∧ ∀ x ∈ xs, x.length = k ∧ ∀ p ∈ x, plainP p = true) : MovesW P nt w0 S0 E st a w o nb (.bs nb 0 k n n) [(nb, some (.box xs.flatten))] := by
  intro K Q hK
  refine call_core h hnb ho hcal hargs hc ?_
  intro v w' S' μc hb hS' hlt' hrel hcrel htok hap
  obtain ⟨hnx, hn0, hpl⟩ := hn
  obtain ⟨_, vs, _, hown, hfree⟩ := htok 2 e k n (by simp)
  have hcr := rel_sl hrel
  have hv : v = μc 2 := by
    cases hrel with
    | c hc => exfalso; cases hc; omega
    | tok _ _ _ _ _ hv _ => exact hv
  rcases hown.2 with ⟨_, h0⟩ | ⟨g, cap, cur, hmu, hB, hg, hnc, hcm, hcs, htake⟩
  · omega
  have hglt : g < w'.heap.size := (Array.getElem?_eq_some_iff.1 hg).1
  have hSn : ∀ b : Addr, plusS S st.H μ [] b → S b := fun b hb => by
    rcases hb with hb | ⟨_, nm, h2, _⟩
    · exact hb
    · cases h2
  rw [hv, hmu] at hcr
  have hcells : ∀ (j : Nat) p, xs.flatten[j]? = some p → ∃ u, w'.cell? ⟨g, j, none⟩ = some u ∧ CRel S' w' p u := by
    intro j p hp
    cases hcr with
    | sl _ _ A c k' u ht h0 hn' hc' hm' hk hone hcell hrel' =>
      have key : ∀ (xs : List (List PV)) (i0 : Nat), (∀ x ∈ xs, x.length = k) → ∀ (j : Nat) p, xs.flatten[j]? = some p → ∃ (i j' : Nat) (x : List PV), xs[i]? = some x ∧ x[j']? = some p ∧ j = i * k + j' := by
        intro xs
        induction xs with
        | nil => intro _ _ j p hp; simp at hp
        | cons x xs ih =>
          intro i0 hl j p hp
          rw [List.flatten_cons, List.getElem?_append] at hp
          split at hp
          · exact ⟨0, j, x, rfl, hp, by omega⟩
          · rename_i hge
            obtain ⟨i, j', x', h1, h2, h3⟩ := ih 0 (fun y hy => hl y (by simp [hy])) _ p hp
            have hx := hl x (by simp)
            exact ⟨i + 1, j', x', by simpa using h1, h2, by rw [Nat.add_mul]; omega⟩
      obtain ⟨i, j', x, h1, h2, h3⟩ := key xs 0 (fun x hx => (hpl x hx).1) j p hp
      have hkk : k' = k := by
        have := hk x (List.mem_of_getElem? h1)
        have := (hpl x (List.mem_of_getElem? h1)).1
        omega
      subst hkk
      obtain ⟨ad, e1, _, e3⟩ := hcell i j' x p h1 h2
      cases e1
      rw [Addr.add_lit] at e3
      refine ⟨u i j', by rw [h3]; simpa using e3, hrel' i j' x p h1 h2⟩
  have hflen : xs.flatten.length = n * k := by
    have : ∀ (xs : List (List PV)), (∀ x ∈ xs, x.length = k) → xs.flatten.length = xs.length * k := by
      intro xs
      induction xs with
      | nil => intro _; simp
      | cons x xs ih =>
        intro hl
        rw [List.flatten_cons, List.length_append, ih (fun y hy => hl y (by simp [hy])), hl x (by simp), List.length_cons, Nat.add_mul]
        omega
    rw [this xs (fun x hx => (hpl x hx).1), hnx]
  have hflat : ∀ p ∈ xs.flatten, plainP p = true := fun p hp => by
    obtain ⟨x, hx, hpx⟩ := List.mem_flatten.1 hp
    exact (hpl x hx).2 p hpx
  -- what stays for good: all but the new block
  have hgw : w.heap.size ≤ g := hB
  have s1 := h.called (S' := fun b => S' b ∧ b.block ≠ g) hb (fun b hb2 => ⟨(hS' b (h.slt b hb2).1).2 (.inl hb2), fun e => by have := (h.slt b hb2).1; omega⟩) (fun b hb2 hs => hSn b ((hS' b hb2).1 hs.1)) (fun b hs => hlt' b hs.1)
  have hnm := nb_fresh hnb
  have hob : HRel w0.heap.size (fun b => S' b ∧ b.block ≠ g) (upd μ nb (.pointer (some ⟨g, 0, none⟩))) (fun m => st.D m ∨ m = nb) w' nb (.box xs.flatten) := by
    refine ⟨g, upd_same _ _ _, Nat.le_trans h.below.size hgw, hglt, fun j p hp => ?_, fun j hj => ?_, fun b hb2 hs => hs.2 hb2⟩
    · obtain ⟨u, hu, hr⟩ := hcells j p hp
      exact ⟨u, hu, plain_rel (S' := fun b => S' b ∧ b.block ≠ g) (hflat p (List.mem_of_getElem? hp)) hr⟩
    · unfold World.frozen?
      rw [hg]
      simp
  have s2 := s1.name nb hnm (.pointer (some ⟨g, 0, none⟩)) (.box xs.flatten) hob (fun m o' hm g' hg' e => by
    cases e
    have h9 : g < w.heap.size := (hrel_blk (h.heap m o' hm) _ hg').2
    omega)
  have s3 := s2.more (D' := moreD st.D nb) (fun m hm => by
    rcases hm with hm | hm
    · exact .inl hm
    · exact .inr ⟨by omega, by omega⟩)
  refine hK v w' _ _ s3 ?_
  rw [hv, hmu]
  exact .bs nb 0 k n n g 0 cap (.inr ⟨by omega, by omega⟩) (upd_same _ _ _) (fun _ => rfl) (Nat.le_refl _) hnc hcm
end
end Go.Proofs.YtgagnohelibaoaaDoor
