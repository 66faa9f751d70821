import Derived.Test.YtgagnohelibaoaaDoorCb
/-! The operations of a region, in whatever order. -/
set_option linter.unusedSimpArgs false
set_option linter.unusedVariables false
namespace Go.Proofs.YtgagnohelibaoaaDoor
open Go.RowKit

def isCall : Op → Bool
  | .call c => match c.callee with
    | .value _ => true
    | _ => false
  | _ => false
/-- What one operation came to. -/
structure Stp where
  p : PV
  rd : List Nat
  wr : List (Nat × Option HObj)
def OpTo (P : Program) (M : List Nat) (o : Oper) (nb : Nat) (H : Nat → Option HObj) (vals : List PV) (s : Stp) : Prop :=
  (isCall o.op = false ∧ ∃ r, opEval P M o nb H vals = some r ∧ r.ok ∧ s = ⟨r.val, r.rd, r.wr⟩) ∨
  (isCall o.op = true ∧ ∃ f fa fb args r toks rd, argsE H vals = some (.clo (.func f) fa fb :: args, rd) ∧ CallsTo P f (fa ++ args ++ fb) r toks ∧ ((rd = [] ∧ (toks = [] ∨ r.imps = true)) ∨ (r.flat = true ∧ toks = [])) ∧ s = ⟨imp nb r toks, rd, wrs nb toks⟩) ∨
  (isCall o.op = true ∧ ∃ f fa fb args hs r wr, vals = .clo (.func f) fa fb :: args ∧ InTo P f (fa ++ args ++ fb) hs r wr ∧ (∀ x ∈ hs, H x.1 = some x.2) ∧ s = ⟨r nb, hs.map (·.1), wr nb⟩) ∨
  (isCall o.op = true ∧ ∃ f fa fb args r wr, argsE H vals = some (.clo (.func f) fa fb :: args, []) ∧ InTo P f (fa ++ args ++ fb) [] r wr ∧ s = ⟨r nb, [], wr nb⟩) ∨
  (isCall o.op = true ∧ ∃ f fa fb args xs e k n, argsE H vals = some (.clo (.func f) fa fb :: args, []) ∧ CallsTo P f (fa ++ args ++ fb) (.sl 2 xs) [(2, e, k, n)] ∧ (n = xs.length ∧ 0 < n ∧ ∀ x ∈ xs, x.length = k ∧ ∀ p ∈ x, plainP p = true) ∧ s = ⟨.bs nb 0 k n n, [], [(nb, some (.box xs.flatten))]⟩)
def OpG (P : Program) (M : List Nat) (ds : List (Option Tmp)) (o : Oper) (nb : Nat) (T : Nat → PV) (H : Nat → Option HObj) (s : Stp) : Prop :=
  match o.guard with
  | none => OpTo P M o nb H ((opnds o.op).map (ev T)) s
  | some (j, want) => ∃ d, ds[j]? = some (some d) ∧ ((∃ b, T d = .bool b ∧ ((b = want ∧ OpTo P M o nb H ((opnds o.op).map (ev T)) s) ∨ (b ≠ want ∧ s = ⟨.lit undef, [], []⟩))) ∨ (T d = .lit undef ∧ s = ⟨.lit undef, [], []⟩))
section
variable {P : Program} {nt : Nat} {w0 : World} {S0 : Addr → Prop} {E : List (PV × Value)} {S : Addr → Prop} {μ : Nat → Value} {st : St} {a : Act} {w w' : World} {o : Oper} {nb : Nat} {M : List Nat} {H H' : Nat → Option HObj} {s : Stp} {ops : Array Oper}

theorem opTo_sound (h : Sim nt w0 S0 E S μ st a w) (hbd : ∃ N, ∀ m, st.D m → m < N) (hnb : ∀ j, j < 8 → ¬ st.D (nb + j)) (ht : OpTo P M o nb st.H ((opnds o.op).map (ev st.T)) s) : MovesW P nt w0 S0 E st a w o nb s.p s.wr := by
  have hx := rel_ev h.tmps
  rcases ht with ⟨_, r, hev, hok, rfl⟩ | ⟨hc, f, fa, fb, args, r, toks, rd, hargs, hct, hfl, rfl⟩ | ⟨hc, f, fa, fb, args, hs, r, wr, hvals, hin, hhs, rfl⟩ | ⟨hc, f, fa, fb, args, r, wr, hargs, hin, rfl⟩ | ⟨hc, f, fa, fb, args, xs, e, k, n, hargs, hct, hn, rfl⟩
  · exact moves_w (op_sound h hnb hev hok)
  · cases ho : o.op with
    | call c =>
      rw [ho] at hc hargs
      cases hcal : c.callee with
      | value fo =>
        simp only [opnds, hcal] at hargs
        exact call_sound h hnb ho hcal hargs hct hfl
      | _ => simp [isCall, hcal] at hc
    | _ => rw [ho] at hc; simp [isCall] at hc
  · cases ho : o.op with
    | call c =>
      rw [ho] at hc hvals
      cases hcal : c.callee with
      | value fo =>
        simp only [opnds, hcal, List.map_cons, List.cons.injEq] at hvals
        refine in_sound (args := args) h hbd hnb ho hcal (ps := args) (rf := .clo (.func f) fa fb) ⟨_, args, ⟨rfl, ?_⟩, by rw [← hvals.2]; simp, fun i p hp => ?_, rfl, rfl⟩ hin hhs
        · rw [← hvals.1]; exact hx fo
        · rw [← hvals.2, List.getElem?_map] at hp
          cases hi : c.args.toList[i]? with
          | none => rw [hi] at hp; cases hp
          | some x =>
            rw [hi] at hp
            simp only [Option.map_some, Option.some.injEq] at hp
            subst hp
            rw [List.getD_eq_getElem?_getD, List.getElem?_map, hi]
            exact hx x
      | _ => simp [isCall, hcal] at hc
    | _ => rw [ho] at hc; simp [isCall] at hc
  · cases ho : o.op with
    | call c =>
      rw [ho] at hc hargs
      cases hcal : c.callee with
      | value fo =>
        simp only [opnds, hcal] at hargs
        obtain ⟨n1, g1⟩ := argsE_rel h hargs ((fo :: c.args.toList).map a.eval) (by simp) (fun i p hp => by
          rw [List.getElem?_map] at hp
          cases hi : (fo :: c.args.toList)[i]? with
          | none => rw [hi] at hp; cases hp
          | some x =>
            rw [hi] at hp
            simp only [Option.map_some, Option.some.injEq] at hp
            subst hp
            rw [List.getD_eq_getElem?_getD, List.getElem?_map, hi]
            exact hx x)
        have toS : ∀ {p v}, CRel (plusS S st.H μ []) w p v → Rel S μ st.D w p v := fun hr => .c (hr.mono (fun b hb => by
          rcases hb with hb | ⟨_, nm, h2, _⟩
          · exact hb
          · cases h2) (fun _ _ => rfl))
        refine in_sound (args := args) h hbd hnb ho hcal (ps := args) (rf := .clo (.func f) fa fb) ⟨_, args, ⟨rfl, ?_⟩, by simpa using n1, fun i p hp => ?_, rfl, rfl⟩ hin (fun x hx => by cases hx)
        · have := g1 0 _ rfl
          simpa using toS this
        · have := g1 (i + 1) p (by simpa using hp)
          simpa using toS this
      | _ => simp [isCall, hcal] at hc
    | _ => rw [ho] at hc; simp [isCall] at hc
  · cases ho : o.op with
    | call c =>
      rw [ho] at hc hargs
      cases hcal : c.callee with
      | value fo =>
        simp only [opnds, hcal] at hargs
        exact thaw_sound h hnb ho hcal hargs hct hn
      | _ => simp [isCall, hcal] at hc
    | _ => rw [ho] at hc; simp [isCall] at hc

theorem resC_local {p q : PV} {rd : List Nat} (h : resC H p = some (q, rd)) (hl : ∀ n ∈ rd, H' n = H n) : resC H' p = some (q, rd) := by
  cases p with
  | ptr nm off =>
    simp only [resC] at h ⊢
    have hrd : rd = [nm] := by
      split at h
      · split at h
        · split at h
          · simp only [Option.some.injEq, Prod.mk.injEq] at h; exact h.2.symm
          · cases h
        · cases h
      · cases h
    rw [hl nm (by rw [hrd]; simp)]
    exact h
  | _ => simpa only [resC] using h
theorem resL_local : ∀ {ps qs : List PV} {rd : List Nat}, resL H ps = some (qs, rd) → (∀ n ∈ rd, H' n = H n) → resL H' ps = some (qs, rd)
  | [], qs, rd, h, _ => h
  | p :: ps, qs, rd, h, hl => by
    simp only [resL] at h ⊢
    split at h
    · rename_i q l hq
      split at h
      · rename_i qs' ls hqs
        simp only [Option.some.injEq, Prod.mk.injEq] at h
        obtain ⟨rfl, rfl⟩ := h
        rw [resC_local hq (fun n hn => hl n (by simp [hn]))]
        simp only
        rw [resL_local hqs (fun n hn => hl n (by simp [hn]))]
      · cases h
    · cases h
theorem argE_local {p q : PV} {rd : List Nat} (h : argE H p = some (q, rd)) (hl : ∀ n ∈ rd, H' n = H n) : argE H' p = some (q, rd) := by
  cases p with
  | clo f x y =>
    simp only [argE] at h ⊢
    split at h
    · rename_i x' l hx
      split at h
      · rename_i y' l' hy
        simp only [Option.some.injEq, Prod.mk.injEq] at h
        obtain ⟨rfl, rfl⟩ := h
        rw [resL_local hx (fun n hn => hl n (by simp [hn]))]
        simp only
        rw [resL_local hy (fun n hn => hl n (by simp [hn]))]
      · cases h
    · cases h
  | _ => simpa only [argE] using h
theorem argsE_local : ∀ {ps qs : List PV} {rd : List Nat}, argsE H ps = some (qs, rd) → (∀ n ∈ rd, H' n = H n) → argsE H' ps = some (qs, rd)
  | [], qs, rd, h, _ => h
  | p :: ps, qs, rd, h, hl => by
    simp only [argsE] at h ⊢
    split at h
    · rename_i q l hq
      split at h
      · rename_i qs' ls hqs
        simp only [Option.some.injEq, Prod.mk.injEq] at h
        obtain ⟨rfl, rfl⟩ := h
        rw [argE_local hq (fun n hn => hl n (by simp [hn]))]
        simp only
        rw [argsE_local hqs (fun n hn => hl n (by simp [hn]))]
      · cases h
    · cases h
theorem loadE_local {t : TypeId} {p : PV} {r : Res} (h : loadE P t H p = some r) (hl : ∀ n ∈ r.rd, H' n = H n) : loadE P t H' p = some r := by
  cases p with
  | ptr nm off =>
    simp only [loadE] at h ⊢
    have hrd : r.rd = [nm] := by
      split at h
      · split at h
        · cases h; rfl
        · cases h
      · cases h
    rw [hl nm (by rw [hrd]; simp)]
    exact h
  | _ => simpa only [loadE] using h
theorem storeE_local {t : TypeId} {p v : PV} {r : Res} (h : storeE P t H p v = some r) (hl : ∀ n ∈ r.rd, H' n = H n) : storeE P t H' p v = some r := by
  cases p with
  | ptr nm off =>
    simp only [storeE] at h ⊢
    have hrd : r.rd = [nm] := by
      split at h
      · split at h
        · split at h
          · cases h; rfl
          · cases h
        · cases h
      · cases h
    rw [hl nm (by rw [hrd]; simp)]
    exact h
  | _ => simpa only [storeE] using h
theorem appE_local {s x : TypeId} {vals : List PV} {r : Res} (h : appE P s x nb H vals = some r) (hl : ∀ n ∈ r.rd, H' n = H n) : appE P s x nb H' vals = some r := by
  unfold appE at h ⊢
  split at h
  · rename_i nm off k n m nm2 off2 k2 n2 m2
    have hm : nm ∈ r.rd := by
      unfold appB at h
      repeat' (split at h)
      all_goals first | (cases h; simp; done) | cases h
    rw [hl nm hm]
    exact h
  · rename_i t xs t' ys
    have hrd : r.rd = [t] := by
      split at h
      · cases h
      · split at h
        · split at h
          · split at h
            · cases h
            · split at h
              · cases h; rfl
              · unfold appT at h
                split at h
                · cases h; rfl
                · cases h
          · cases h
        · cases h
    rw [hl t (by rw [hrd]; simp)]
    exact h
  · cases h
theorem convB_local {s d : TypeId} {nm off n : Nat} {r : Res} (h : convB P s d nm off n (H nm) = some r) (hl : ∀ n ∈ r.rd, H' n = H n) : convB P s d nm off n (H' nm) = some r := by
  have hm : nm ∈ r.rd := by
    unfold convB at h
    repeat' (split at h)
    all_goals first | (cases h; simp; done) | cases h
  rw [hl nm hm]
  exact h
theorem convO_local {s d : TypeId} {x : PV} {r : Res} (h : convO P s d H x = some r) (hl : ∀ n ∈ r.rd, H' n = H n) : convO P s d H' x = some r := by
  cases x with
  | bs nm off k n m =>
    simp only [convO] at h ⊢
    exact convB_local h hl
  | sl nm xs =>
    simp only [convO] at h ⊢
    split at h
    · rename_i h2
      rw [if_pos h2]
      exact h
    · rename_i h2
      rw [if_neg h2]
      have ad : ∀ {x : Option Res} {r : Res}, addRd nm x = some r → nm ∈ r.rd := fun {x r} he => by
        cases x with
        | none => cases he
        | some y => obtain ⟨c, p, rd, wr⟩ := y; cases he; simp
      have hm : nm ∈ r.rd := by
        unfold convS at h
        split at h
        · unfold convT at h
          split at h
          · split at h
            · split at h
              · cases h; simp
              · cases h
            · cases h
          · exact ad h
        · exact ad h
      rw [hl nm hm]
      exact h
  | _ => simpa only [convO] using h
theorem convX_local {s d : TypeId} {own : Bool} {nb : Nat} {x : PV} {r : Res} (h : convX P s d own nb H x = some r) (hl : ∀ n ∈ r.rd, H' n = H n) : convX P s d own nb H' x = some r := by
  unfold convX at h ⊢
  split at h
  · exact h
  · exact convO_local h hl
theorem clearE_local {t : TypeId} {nm off k n : Nat} {r : Res} (h : clearE P t nm off k n (H nm) = some r) (hl : ∀ n ∈ r.rd, H' n = H n) : clearE P t nm off k n (H' nm) = some r := by
  have hm : nm ∈ r.rd := by
    unfold clearE at h
    repeat' (split at h)
    all_goals first | (cases h; simp; done) | cases h
  rw [hl nm hm]
  exact h
theorem lookE_local {t : TypeId} {ok : Bool} {nm : Nat} {k : PV} {r : Res} (h : lookE P t ok nm k (H nm) = some r) (hl : ∀ n ∈ r.rd, H' n = H n) : lookE P t ok nm k (H' nm) = some r := by
  have hm : nm ∈ r.rd := by
    unfold lookE at h
    repeat' (split at h)
    all_goals first | (cases h; simp; done) | cases h
  rw [hl nm hm]
  exact h
theorem insE_local {t : TypeId} {nm : Nat} {k v : PV} {r : Res} (h : insE P t nm k v (H nm) = some r) (hl : ∀ n ∈ r.rd, H' n = H n) : insE P t nm k v (H' nm) = some r := by
  have hm : nm ∈ r.rd := by
    unfold insE at h
    repeat' (split at h)
    all_goals first | (cases h; simp; done) | cases h
  rw [hl nm hm]
  exact h
theorem nextE_local {nm : Nat} {r : Res} (h : nextE nm (H nm) = some r) (hl : ∀ n ∈ r.rd, H' n = H n) : nextE nm (H' nm) = some r := by
  have hm : nm ∈ r.rd := by
    unfold nextE at h
    repeat' (split at h)
    all_goals first | (cases h; simp; done) | cases h
  rw [hl nm hm]
  exact h
theorem opEval_local {vals : List PV} {r : Res} (h : opEval P M o nb H vals = some r) (hl : ∀ n ∈ r.rd, H' n = H n) : opEval P M o nb H' vals = some r := by
  unfold opEval at h ⊢
  cases ho : o.op with
  | load t x =>
    simp only [ho] at h ⊢
    split at h
    · exact loadE_local h hl
    · cases h
  | store t x y =>
    simp only [ho] at h ⊢
    split at h
    · exact storeE_local h hl
    · cases h
  | convert s d x =>
    simp only [ho] at h ⊢
    split at h
    · exact convX_local h hl
    · cases h
  | lookup t x y ok =>
    simp only [ho] at h ⊢
    split at h
    · exact lookE_local h hl
    · cases h
  | insert t x y u =>
    simp only [ho] at h ⊢
    split at h
    · exact insE_local h hl
    · cases h
  | mapUpdate t x y u =>
    simp only [ho] at h ⊢
    split at h
    · exact insE_local h hl
    · cases h
  | next x b =>
    simp only [ho] at h ⊢
    split at h
    · split at h
      · rename_i hb
        simp only [hb, if_true]
        exact nextE_local h hl
      · cases h
    · cases h
  | call c =>
    simp only [ho] at h ⊢
    cases hc : c.callee with
    | builtin b =>
      simp only [hc] at h ⊢
      cases b with
      | clear =>
        simp only at h ⊢
        split at h
        · split at h
          · exact clearE_local h hl
          · cases h
        · cases h
      | append =>
        simp only at h ⊢
        cases hts : c.argTypes.toList with
        | nil => rw [hts] at h; cases h
        | cons x l =>
          cases l with
          | nil => rw [hts] at h; cases h
          | cons y l =>
            cases l with
            | nil => rw [hts] at h; exact appE_local h hl
            | cons z l => rw [hts] at h; cases h
      | _ => exact h
    | _ => simp only [hc] at h; cases h
  | _ => simpa only [ho] using h
theorem opTo_local {vals : List PV} (h : OpTo P M o nb H vals s) (hl : ∀ n ∈ s.rd, H' n = H n) : OpTo P M o nb H' vals s := by
  rcases h with ⟨hc, r, hev, hok, rfl⟩ | ⟨hc, f, fa, fb, args, r, toks, rd, hargs, hct, hfl, rfl⟩ | ⟨hc, f, fa, fb, args, hs, r, wr, hvals, hin, hhs, rfl⟩ | ⟨hc, f, fa, fb, args, r, wr, hargs, hin, rfl⟩ | ⟨hc, f, fa, fb, args, xs, e, k, n, hargs, hct, hn, rfl⟩
  · exact .inl ⟨hc, r, opEval_local hev hl, hok, rfl⟩
  · exact .inr (.inl ⟨hc, f, fa, fb, args, r, toks, rd, argsE_local hargs hl, hct, hfl, rfl⟩)
  · exact .inr (.inr (.inl ⟨hc, f, fa, fb, args, hs, r, wr, hvals, hin, fun x hx => (hl x.1 (List.mem_map.2 ⟨x, hx, rfl⟩)).trans (hhs x hx), rfl⟩))
  · exact .inr (.inr (.inr (.inl ⟨hc, f, fa, fb, args, r, wr, argsE_local hargs hl, hin, rfl⟩)))
  · exact .inr (.inr (.inr (.inr ⟨hc, f, fa, fb, args, xs, e, k, n, argsE_local hargs hl, hct, hn, rfl⟩)))

/-- The slots that an operation looks at. -/
def looks (ds : List (Option Tmp)) (o : Oper) : List Tmp :=
  ((opnds o.op).filterMap fun x => match x with | .tmp t => some t | _ => none) ++ (match o.guard with | some (j, _) => (match ds[j]? with | some (some d) => [d] | _ => []) | none => [])
theorem ev_congr {T T' : Nat → PV} {x : Operand} (h : ∀ t, x = .tmp t → T' t = T t) : ev T' x = ev T x := by cases x <;> first | rfl | exact h _ rfl
theorem vals_congr {T T' : Nat → PV} : ∀ {l : List Operand}, (∀ t, Operand.tmp t ∈ l → T' t = T t) → l.map (ev T') = l.map (ev T) := fun h =>
  List.map_congr_left fun x hx => ev_congr fun t e => h t (e ▸ hx)
theorem opG_local {ds : List (Option Tmp)} {T T' : Nat → PV} (h : OpG P M ds o nb T H s) (hT : ∀ t ∈ looks ds o, T' t = T t) (hl : ∀ n ∈ s.rd, H' n = H n) : OpG P M ds o nb T' H' s := by
  have hv : (opnds o.op).map (ev T') = (opnds o.op).map (ev T) := vals_congr fun t ht => hT t (by
    unfold looks
    refine List.mem_append_left _ (List.mem_filterMap.2 ⟨_, ht, rfl⟩))
  unfold OpG at h ⊢
  cases hg : o.guard with
  | none =>
    simp only [hg] at h ⊢
    rw [hv]
    exact opTo_local h hl
  | some gw =>
    obtain ⟨j, want⟩ := gw
    simp only [hg] at h ⊢
    obtain ⟨d, hd, hh⟩ := h
    refine ⟨d, hd, ?_⟩
    rw [hT d (by unfold looks; refine List.mem_append_right _ ?_; simp [hg, hd])]
    rcases hh with ⟨b, hb, hc⟩ | hh
    · refine .inl ⟨b, hb, ?_⟩
      rcases hc with ⟨h1, h2⟩ | h1
      · rw [hv]
        exact .inl ⟨h1, opTo_local h2 hl⟩
      · exact .inr h1
    · exact .inr hh

def dstsOf (ops : Array Oper) : List (Option Tmp) := ops.toList.map (·.dst)
theorem dsts_get {j : Nat} {d : Tmp} (h : (dstsOf ops)[j]? = some (some d)) : (ops[j]?).bind (·.dst) = some d := by
  unfold dstsOf at h
  rw [List.getElem?_map, Array.getElem?_toList] at h
  cases hj : ops[j]? with
  | none => rw [hj] at h; cases h
  | some o => rw [hj] at h; simpa using h
/-- One operation of a region, guard and all. -/
theorem opG_sound (h : Sim nt w0 S0 E S μ st a w) (hbd : ∃ N, ∀ m, st.D m → m < N) (hnb : ∀ j, j < 8 → ¬ st.D (nb + j)) (ht : OpG P M (dstsOf ops) o nb st.T st.H s) (hdst : ∀ d, o.dst = some d → d < nt) (K : Act → World → Prop) (Q : Exit → Act → World → Prop)
    (hK : ∀ v w' S' μ', Sim nt w0 S0 E S' μ' { T := putT st.T o.dst s.p, H := applyW st.H s.wr, D := moreD st.D nb } (a.put o.dst v) w' → K (a.put o.dst v) w') :
    if Region.wanted o (yielded ops a.tmps) then o.wp P a w K Q else K (a.put o.dst undef) w := by
  have fin : MovesW P nt w0 S0 E st a w o nb s.p s.wr → o.wp P a w K Q := fun hm => by
    refine hm K Q fun v w' S' μ' hs hr => hK v w' S' μ' ?_
    exact hs.put o.dst hdst hr
  unfold OpG at ht
  cases hg : o.guard with
  | none =>
    simp only [hg] at ht
    have hw : Region.wanted o (yielded ops a.tmps) = true := by unfold Region.wanted; rw [hg]
    rw [if_pos hw]
    exact fin (opTo_sound h hbd hnb ht)
  | some gw =>
    obtain ⟨j, want⟩ := gw
    simp only [hg] at ht
    obtain ⟨d, hd, hh⟩ := ht
    have skip : yielded ops a.tmps j ≠ some want → s = ⟨.lit undef, [], []⟩ → if Region.wanted o (yielded ops a.tmps) then o.wp P a w K Q else K (a.put o.dst undef) w := fun hy he => by
      subst he
      have hw : Region.wanted o (yielded ops a.tmps) = (yielded ops a.tmps j == some want) := by unfold Region.wanted; rw [hg]
      rw [if_neg (by rw [hw]; simpa using hy)]
      refine hK undef w S μ ?_
      exact (h.more (D' := moreD st.D nb) (fun m hm => .inl hm)).put o.dst hdst (p := .lit undef) (v := undef) (.c (.lit _))
    have hyd : yielded ops a.tmps j = match a.tmps[d]? with | some (.bool b) => some b | _ => none := by
      unfold yielded
      rw [dsts_get hd]
      rfl
    rcases hh with ⟨b, hb, hc⟩ | ⟨hu, he⟩
    · have hy : yielded ops a.tmps j = some b := by
        have h1 := h.tmps d
        rw [hb] at h1
        have h2 := rel_bool h1
        rw [hyd]
        rw [Array.getD_eq_getD_getElem?] at h2
        cases hc : a.tmps[d]? with
        | none => rw [hc] at h2; simp [undef] at h2
        | some x =>
          rw [hc] at h2
          simp only [Option.getD_some] at h2
          subst h2
          rfl
      rcases hc with ⟨rfl, h2⟩ | ⟨h1, he⟩
      · have hw : Region.wanted o (yielded ops a.tmps) = true := by unfold Region.wanted; rw [hg]; simp only [hy]; simp
        rw [if_pos hw]
        exact fin (opTo_sound h hbd hnb h2)
      · exact skip (by rw [hy]; simpa using h1) he
    · refine skip ?_ he
      have h1 := h.tmps d
      rw [hu] at h1
      have h2 := rel_lit h1
      rw [Array.getD_eq_getD_getElem?] at h2
      rw [hyd]
      cases hc : a.tmps[d]? with
      | none => simp
      | some x =>
        rw [hc] at h2
        simp only [Option.getD_some] at h2
        subst h2
        simp [undef]

/-- The region in the order of the text. -/
def TR (P : Program) (M : List Nat) (ds : List (Option Tmp)) (N : Nat) : Nat → List Oper → (Nat → PV) → (Nat → Option HObj) → List Stp → (Nat → PV) → (Nat → Option HObj) → Prop
  | _, [], T, H, [], T', H' => T = T' ∧ H = H'
  | i, o :: os, T, H, s :: ss, T', H' => OpG P M ds o (N + 8 * i) T H s ∧ TR P M ds N (i + 1) os (putT T o.dst s.p) (applyW H s.wr) ss T' H'
  | _, _, _, _, _, _, _ => False

theorem tr_list {N : Nat} {Q : Exit → Act → World → Prop} {T' : Nat → PV} {H' : Nat → Option HObj} (n : Nat) (hfin : ∀ S μ a w, Sim nt w0 S0 E S μ ⟨T', H', fun m => m < N + 8 * n⟩ a w → Q .normal a w) : ∀ (os : List Oper) (i : Nat) (T : Nat → PV) (H : Nat → Option HObj) (ss : List Stp) (S : Addr → Prop) (μ : Nat → Value) (a : Act) (w : World),
    TR P M (dstsOf ops) N i os T H ss T' H' → i + os.length = n → (∀ o ∈ os, ∀ d, o.dst = some d → d < nt) → Sim nt w0 S0 E S μ ⟨T, H, fun m => m < N + 8 * i⟩ a w → wpList P ops Q os a w
  | [], i, T, H, ss, S, μ, a, w, ht, hi, hd, h => by
    cases ss with
    | nil =>
      obtain ⟨rfl, rfl⟩ := ht
      simp only [List.length_nil, Nat.add_zero] at hi
      subst hi
      exact hfin S μ a w h
    | cons s ss => exact ht.elim
  | o :: os, i, T, H, ss, S, μ, a, w, ht, hi, hd, h => by
    cases ss with
    | nil => exact ht.elim
    | cons s ss =>
      obtain ⟨hg, htr⟩ := ht
      have hfresh : ∀ j, j < 8 → ¬ ((fun m => m < N + 8 * i) (N + 8 * i + j)) := fun j _ hc => by
        have : N + 8 * i + j < N + 8 * i := hc
        omega
      have := opG_sound (ops := ops) h ⟨N + 8 * i, fun m hm => hm⟩ hfresh hg (hd o (by simp)) (wpList P ops Q os) Q (fun v w' S' μ' hs => by
        refine tr_list n hfin os (i + 1) _ _ ss S' μ' _ w' htr (by simp at hi; omega) (fun o' ho' => hd o' (by simp [ho'])) (hs.more (D' := fun m => m < N + 8 * (i + 1)) (fun m hm => ?_))
        rcases hm with hm | ⟨_, hm⟩
        · have : m < N + 8 * i := hm
          show m < _
          omega
        · show m < _
          omega)
      unfold wpList
      split
      · rename_i hw
        rw [if_pos hw] at this
        exact .inl this
      · rename_i hw
        rw [if_neg hw] at this
        exact this
end
end Go.Proofs.YtgagnohelibaoaaDoor
