import Derived.Test.YtgagnohelibaoaaDoorG
/-! Code without memory: what a walk steps through. -/
set_option linter.unusedSimpArgs false
set_option linter.unusedVariables false
namespace Go.Proofs.YtgagnohelibaoaaDoor
open Go.RowKit

/-- A truth value that the walk parts at, if it has to. -/
def IfB (b : Bool) (K : Bool → Prop) : Prop := K b
theorem IfB_true (K : Bool → Prop) : IfB true K = K true := rfl
theorem IfB_false (K : Bool → Prop) : IfB false K = K false := rfl
theorem ifB {b : Bool} {K : Bool → Prop} (h1 : b = true → K true) (h2 : b = false → K false) : IfB b K := by
  cases b
  · exact h2 rfl
  · exact h1 rfl
/-- A value that is told first. -/
def PvK (p : PV) (K : PV → Prop) : Prop := K p
theorem PvK_eq (p : PV) (K : PV → Prop) : PvK p K = K p := rfl
def BoK (p : PV) (K : Bool → Prop) : Prop := match p with
  | .bool b => IfB b K
  | _ => False
theorem BoK_bool (b : Bool) (K : Bool → Prop) : BoK (.bool b) K = IfB b K := rfl
def ResK (r : Option Res) (K : PV → List Nat → List (Nat × Option HObj) → Prop) : Prop := match r with
  | some r => r.ok ∧ K r.val r.rd r.wr
  | none => False
theorem ResK_some (c : Prop) (p : PV) (rd : List Nat) (wr : List (Nat × Option HObj)) (K : PV → List Nat → List (Nat × Option HObj) → Prop) : ResK (some ⟨c, p, rd, wr⟩) K = (c ∧ K p rd wr) := rfl
/-- A call, whose result is still to be told. -/
def CalK (P : Program) (f : FuncId) (args : List PV) (rd : List Nat) (nb : Nat) (K : PV → List Nat → List (Nat × Option HObj) → Prop) : Prop :=
  (∃ r toks, CallsTo P f args r toks ∧ ((rd = [] ∧ (toks = [] ∨ r.imps = true)) ∨ (r.flat = true ∧ toks = [])) ∧ K (imp nb r toks) rd (wrs nb toks)) ∨
  (∃ r wr, InTo P f args [] r wr ∧ rd = [] ∧ K (r nb) [] (wr nb)) ∨
  (∃ xs e k n, CallsTo P f args (.sl 2 xs) [(2, e, k, n)] ∧ (n = xs.length ∧ 0 < n ∧ ∀ x ∈ xs, x.length = k ∧ ∀ p ∈ x, plainP p = true) ∧ rd = [] ∧ K (.bs nb 0 k n n) [] [(nb, some (.box xs.flatten))])
theorem calK {P : Program} {f : FuncId} {args : List PV} {nb : Nat} {K : PV → List Nat → List (Nat × Option HObj) → Prop} {r : PV} (h : CallsTo P f args r []) (hK : K r [] []) : CalK P f args [] nb K := .inl ⟨r, [], h, .inl ⟨rfl, .inl rfl⟩, hK⟩
theorem calKt {P : Program} {f : FuncId} {args : List PV} {nb : Nat} {K : PV → List Nat → List (Nat × Option HObj) → Prop} {r : PV} {toks : List (Nat × TypeId × Nat × Nat)} (h : CallsTo P f args r toks) (hi : r.imps = true) (hK : K (imp nb r toks) [] (wrs nb toks)) : CalK P f args [] nb K := .inl ⟨r, toks, h, .inl ⟨rfl, .inr hi⟩, hK⟩
theorem calKi {P : Program} {f : FuncId} {args : List PV} {nb : Nat} {K : PV → List Nat → List (Nat × Option HObj) → Prop} {r : Nat → PV} {wr : Nat → List (Nat × Option HObj)} (h : InTo P f args [] r wr) (hK : K (r nb) [] (wr nb)) : CalK P f args [] nb K := .inr (.inl ⟨r, wr, h, rfl, hK⟩)
theorem calKb {P : Program} {f : FuncId} {args : List PV} {nb : Nat} {K : PV → List Nat → List (Nat × Option HObj) → Prop} {xs : List (List PV)} {e k n : Nat} (h : CallsTo P f args (.sl 2 xs) [(2, e, k, n)]) (hn : n = xs.length ∧ 0 < n ∧ ∀ x ∈ xs, x.length = k ∧ ∀ p ∈ x, plainP p = true) (hK : K (.bs nb 0 k n n) [] [(nb, some (.box xs.flatten))]) : CalK P f args [] nb K := .inr (.inr ⟨xs, e, k, n, h, hn, rfl, hK⟩)
theorem calKf {P : Program} {f : FuncId} {args : List PV} {rd : List Nat} {nb : Nat} {K : PV → List Nat → List (Nat × Option HObj) → Prop} {r : PV} (h : CallsTo P f args r []) (hf : r.flat = true) (hK : K r rd []) : CalK P f args rd nb K := .inl ⟨r, [], h, .inr ⟨hf, rfl⟩, hK⟩
def CalA (P : Program) (x : Option (List PV × List Nat)) (nb : Nat) (K : PV → List Nat → List (Nat × Option HObj) → Prop) : Prop := match x with
  | some (.clo (.func f) fa fb :: args, rd) => CalK P f (fa ++ args ++ fb) rd nb K
  | _ => False
theorem CalA_eq (P : Program) (f : FuncId) (fa fb args : List PV) (rd : List Nat) (nb : Nat) (K : PV → List Nat → List (Nat × Option HObj) → Prop) : CalA P (some (.clo (.func f) fa fb :: args, rd)) nb K = CalK P f (fa ++ args ++ fb) rd nb K := rfl
theorem calA_inv {P : Program} {x : Option (List PV × List Nat)} {nb : Nat} {K : PV → List Nat → List (Nat × Option HObj) → Prop} (h : CalA P x nb K) : ∃ f fa fb args rd, x = some (.clo (.func f) fa fb :: args, rd) ∧ CalK P f (fa ++ args ++ fb) rd nb K := by
  unfold CalA at h
  split at h
  · exact ⟨_, _, _, _, _, rfl, h⟩
  · exact h.elim
/-- A call that works upon what it is handed. -/
def InK (P : Program) (f : FuncId) (args : List PV) (H : Nat → Option HObj) (nb : Nat) (K : PV → List Nat → List (Nat × Option HObj) → Prop) : Prop :=
  ∃ hs r wr, InTo P f args hs r wr ∧ (∀ x ∈ hs, H x.1 = some x.2) ∧ K (r nb) (hs.map (·.1)) (wr nb)
def InA (P : Program) (vals : List PV) (H : Nat → Option HObj) (nb : Nat) (K : PV → List Nat → List (Nat × Option HObj) → Prop) : Prop := match vals with
  | .clo (.func f) fa fb :: args => InK P f (fa ++ args ++ fb) H nb K
  | _ => False
theorem inA_inv {P : Program} {vals : List PV} {H : Nat → Option HObj} {nb : Nat} {K : PV → List Nat → List (Nat × Option HObj) → Prop} (h : InA P vals H nb K) : ∃ f fa fb args, vals = .clo (.func f) fa fb :: args ∧ InK P f (fa ++ args ++ fb) H nb K := by
  unfold InA at h
  split at h
  · exact ⟨_, _, _, _, rfl, h⟩
  · exact h.elim
def CalB (P : Program) (x : Option (List PV × List Nat)) (vals : List PV) (H : Nat → Option HObj) (nb : Nat) (K : PV → List Nat → List (Nat × Option HObj) → Prop) : Prop := match x with
  | some y => CalA P (some y) nb K
  | none => InA P vals H nb K
/-- An operation, its operands told. -/
def OpK (P : Program) (M : List Nat) (o : Oper) (nb : Nat) (H : Nat → Option HObj) (vals : List PV) (K : PV → List Nat → List (Nat × Option HObj) → Prop) : Prop :=
  match isCall o.op with
  | true => CalB P (argsE H vals) vals H nb K
  | false => ResK (opEval P M o nb H vals) K

/-- What is asked and written apart from what was asked and written before. -/
def FpC (ops : Array Oper) (i : Nat) (rd wn : List Nat) (fps : List (Nat × List Nat × List Nat)) : Prop := ∀ x ∈ fps, cmpB ops x.1 i = true ∨ ((∀ n ∈ wn, n ∉ x.2.1 ∧ n ∉ x.2.2) ∧ ∀ n ∈ x.2.2, n ∉ rd)
def FpK (draw : Bool) (ops : Array Oper) (i : Nat) (rd wn : List Nat) (fps : List (Nat × List Nat × List Nat)) (K : List (Nat × List Nat × List Nat) → Prop) : Prop :=
  match draw with
  | false => K fps
  | true => match rd, wn with
    | [], [] => K fps
    | rd, wn => FpC ops i rd wn fps ∧ K ((i, rd, wn) :: fps)
/-- A truth value, or none, where what tells it was not run. -/
def BgK (p : PV) (K : Bool → Prop) (A : Prop) : Prop := match p with
  | .bool b => IfB b K
  | .lit (.tuple ⟨[]⟩) => A
  | _ => False
def GuK (g : Option (Nat × Bool)) (ds : List (Option Tmp)) (T : Nat → PV) (K : Bool → (Nat → PV) → Prop) : Prop := match g with
  | none => K true T
  | some (j, want) => match ds[j]? with
    | some (some d) => BgK (T d) (fun b => K (bif want then b else !b) (upd T d (.bool b))) (K false T)
    | _ => False
def AOps (P : Program) (M : List Nat) (draw : Bool) (ops : Array Oper) (ds : List (Option Tmp)) (N : Nat) : List Oper → Nat → (Nat → PV) → (Nat → Option HObj) → List (Nat × List Nat × List Nat) → ((Nat → PV) → (Nat → Option HObj) → Prop) → Prop
  | [], _, T, H, _, K => K T H
  | o :: os, i, T, H, fps, K => GuK o.guard ds T fun run T' => match run with
    | true => OpK P M o (N + 8 * i) H ((opnds o.op).map (ev T')) fun p rd wr => FpK draw ops i rd (namesW wr) fps fun fps' => AOps P M draw ops ds N os (i + 1) (putT T' o.dst p) (applyW H wr) fps' K
    | false => AOps P M draw ops ds N os (i + 1) (putT T' o.dst (.lit undef)) H fps K

section
variable {P : Program} {nt : Nat} {M : List Nat} {ops : Array Oper} {N : Nat}

theorem opK_to {o : Oper} {nb : Nat} {H : Nat → Option HObj} {vals : List PV} {K : PV → List Nat → List (Nat × Option HObj) → Prop} (h : OpK P M o nb H vals K) : ∃ s : Stp, OpTo P M o nb H vals s ∧ K s.p s.rd s.wr := by
  unfold OpK at h
  cases hc : isCall o.op with
  | true =>
    simp only [hc] at h
    unfold CalB at h
    split at h
    · rename_i y heq
      obtain ⟨f, fa, fb, args, rd, hy, h⟩ := calA_inv h
      · obtain rfl := Option.some.inj hy
        rcases h with ⟨r, toks, h1, h2, h3⟩ | ⟨r, wr, h1, rfl, h3⟩ | ⟨xs, e, k, n, h1, h2, rfl, h3⟩
        · exact ⟨⟨imp nb r toks, rd, wrs nb toks⟩, .inr (.inl ⟨hc, f, fa, fb, args, r, toks, rd, heq, h1, h2, rfl⟩), h3⟩
        · exact ⟨⟨r nb, [], wr nb⟩, .inr (.inr (.inr (.inl ⟨hc, f, fa, fb, args, r, wr, heq, h1, rfl⟩))), h3⟩
        · exact ⟨⟨.bs nb 0 k n n, [], [(nb, some (.box xs.flatten))]⟩, .inr (.inr (.inr (.inr ⟨hc, f, fa, fb, args, xs, e, k, n, heq, h1, h2, rfl⟩))), h3⟩
    · obtain ⟨f, fa, fb, args, hv, hs, r, wr, h1, h2, h3⟩ := inA_inv h
      exact ⟨⟨r nb, hs.map (·.1), wr nb⟩, .inr (.inr (.inl ⟨hc, f, fa, fb, args, hs, r, wr, hv, h1, h2, rfl⟩)), h3⟩
  | false =>
    simp only [hc] at h
    unfold ResK at h
    split at h
    · rename_i r heq
      exact ⟨⟨r.val, r.rd, r.wr⟩, .inl ⟨hc, r, heq, h.1, rfl⟩, h.2⟩
    · exact h.elim
/-- Two operations do not meet. -/
def Free (ops : Array Oper) (i j : Nat) (si sj : Stp) : Prop := cmpB ops i j = true ∨ ((∀ n ∈ namesW sj.wr, n ∉ si.rd ∧ n ∉ namesW si.wr) ∧ ∀ n ∈ namesW si.wr, n ∉ sj.rd)
theorem upd_self {T : Nat → PV} {d : Nat} {p : PV} (h : T d = p) : upd T d p = T := funext fun x => by
  unfold upd
  split
  · rename_i e; rw [e, h]
  · rfl
theorem aops_tr {draw : Bool} {K : (Nat → PV) → (Nat → Option HObj) → Prop} : ∀ (os : List Oper) (i : Nat) (T : Nat → PV) (H : Nat → Option HObj) (fps : List (Nat × List Nat × List Nat)) (pre : List Stp), pre.length = i → (draw = true → ∀ (k : Nat) s, pre[k]? = some s → (s.rd = [] ∧ namesW s.wr = []) ∨ (k, s.rd, namesW s.wr) ∈ fps) →
    AOps P M draw ops (dstsOf ops) N os i T H fps K → ∃ ss T' H', TR P M (dstsOf ops) N i os T H ss T' H' ∧ K T' H' ∧ (draw = true → ∀ (j : Nat) sj, ss[j]? = some sj → ∀ (k : Nat) sk, (pre ++ ss)[k]? = some sk → k < i + j → Free ops k (i + j) sk sj)
  | [], i, T, H, fps, pre, hp, hf, h => ⟨[], T, H, ⟨rfl, rfl⟩, h, fun _ j sj hj => by simp at hj⟩
  | o :: os, i, T, H, fps, pre, hp, hf, h => by
    have main : ∃ s : Stp, OpG P M (dstsOf ops) o (N + 8 * i) T H s ∧ ∃ fps', AOps P M draw ops (dstsOf ops) N os (i + 1) (putT T o.dst s.p) (applyW H s.wr) fps' K ∧ (draw = true → (∀ x ∈ fps, x ∈ fps') ∧ ((s.rd = [] ∧ namesW s.wr = []) ∨ ((i, s.rd, namesW s.wr) ∈ fps' ∧ FpC ops i s.rd (namesW s.wr) fps))) := by
      have skip : ∀ {T' : Nat → PV}, AOps P M draw ops (dstsOf ops) N os (i + 1) (putT T' o.dst (.lit undef)) H fps K → T' = T → OpG P M (dstsOf ops) o (N + 8 * i) T H ⟨.lit undef, [], []⟩ → ∃ s : Stp, OpG P M (dstsOf ops) o (N + 8 * i) T H s ∧ ∃ fps', AOps P M draw ops (dstsOf ops) N os (i + 1) (putT T o.dst s.p) (applyW H s.wr) fps' K ∧ (draw = true → (∀ x ∈ fps, x ∈ fps') ∧ ((s.rd = [] ∧ namesW s.wr = []) ∨ ((i, s.rd, namesW s.wr) ∈ fps' ∧ FpC ops i s.rd (namesW s.wr) fps))) := fun {T'} h1 e h2 => by
        subst e
        exact ⟨⟨.lit undef, [], []⟩, h2, fps, h1, fun _ => ⟨fun x hx => hx, .inl ⟨rfl, rfl⟩⟩⟩
      have run : ∀ {T' : Nat → PV}, (OpK P M o (N + 8 * i) H ((opnds o.op).map (ev T')) fun p rd wr => FpK draw ops i rd (namesW wr) fps fun fps' => AOps P M draw ops (dstsOf ops) N os (i + 1) (putT T' o.dst p) (applyW H wr) fps' K) → T' = T →
          (∀ s, OpTo P M o (N + 8 * i) H ((opnds o.op).map (ev T)) s → OpG P M (dstsOf ops) o (N + 8 * i) T H s) → ∃ s : Stp, OpG P M (dstsOf ops) o (N + 8 * i) T H s ∧ ∃ fps', AOps P M draw ops (dstsOf ops) N os (i + 1) (putT T o.dst s.p) (applyW H s.wr) fps' K ∧ (draw = true → (∀ x ∈ fps, x ∈ fps') ∧ ((s.rd = [] ∧ namesW s.wr = []) ∨ ((i, s.rd, namesW s.wr) ∈ fps' ∧ FpC ops i s.rd (namesW s.wr) fps))) := fun {T'} h1 e h2 => by
        subst e
        obtain ⟨s, hs, hK⟩ := opK_to h1
        refine ⟨s, h2 s hs, ?_⟩
        unfold FpK at hK
        cases draw with
        | false => exact ⟨fps, hK, fun h => by cases h⟩
        | true =>
          simp only at hK
          split at hK
          · rename_i e1 e2
            exact ⟨fps, hK, fun _ => ⟨fun x hx => hx, .inl ⟨e1, e2⟩⟩⟩
          · exact ⟨_, hK.2, fun _ => ⟨fun x hx => by simp [hx], .inr ⟨by simp, hK.1⟩⟩⟩
      unfold AOps GuK at h
      split at h
      · rename_i hg
        refine run h rfl fun s hs => ?_
        unfold OpG
        rw [hg]
        exact hs
      · rename_i j want hg
        split at h
        · rename_i d hd
          unfold BgK at h
          split at h
          · rename_i b hb
            unfold IfB at h
            dsimp only at h
            have e := upd_self (T := T) (d := d) hb
            by_cases hbw : b = want
            · have : (bif want then b else !b) = true := by subst hbw; cases b <;> rfl
              rw [this] at h
              refine run h e fun s hs => ?_
              unfold OpG
              rw [hg]
              exact ⟨d, hd, .inl ⟨b, hb, .inl ⟨hbw, hs⟩⟩⟩
            · have : (bif want then b else !b) = false := by cases b <;> cases want <;> simp_all
              rw [this] at h
              refine skip h e ?_
              unfold OpG
              rw [hg]
              exact ⟨d, hd, .inl ⟨b, hb, .inr ⟨hbw, rfl⟩⟩⟩
          · rename_i hb
            refine skip h rfl ?_
            unfold OpG
            rw [hg]
            exact ⟨d, hd, .inr ⟨hb, rfl⟩⟩
          · exact h.elim
        · exact h.elim
    obtain ⟨s, hg, fps', hA, hfp⟩ := main
    obtain ⟨ss, T', H', h1, h2, h3⟩ := aops_tr os (i + 1) _ _ fps' (pre ++ [s]) (by simp [hp]) (fun hd k sk hk => by
      rw [List.getElem?_append] at hk
      split at hk
      · rcases hf hd k sk hk with h | h
        · exact .inl h
        · exact .inr ((hfp hd).1 _ h)
      · rename_i hge
        have hk0 : k - pre.length = 0 := by
          have := (List.getElem?_eq_some_iff.1 hk).1
          simp at this
          omega
        rw [hk0] at hk
        simp at hk
        subst hk
        have : k = i := by omega
        subst this
        rcases (hfp hd).2 with h | h
        · exact .inl h
        · exact .inr h.1) hA
    refine ⟨s :: ss, T', H', ⟨hg, h1⟩, h2, fun hd j sj hj k sk hk hlt => ?_⟩
    cases j with
    | zero =>
      simp only [List.getElem?_cons_zero, Option.some.injEq] at hj
      subst hj
      have hk' : pre[k]? = some sk := by
        rw [List.getElem?_append_left (by omega)] at hk
        exact hk
      rcases (hfp hd).2 with h | h
      · refine .inr ⟨fun n hn => ?_, fun n _ => ?_⟩
        · rw [h.2] at hn; cases hn
        · rw [h.1]; simp
      · rcases hf hd k sk hk' with h' | h'
        · refine .inr ⟨fun n _ => ?_, fun n hn => ?_⟩
          · rw [h'.1, h'.2]; simp
          · rw [h'.2] at hn; cases hn
        · exact h.2 _ h'
    | succ j =>
      have := h3 hd j sj (by simpa using hj) k sk (by simpa using hk) (by omega)
      rwa [show i + 1 + j = i + (j + 1) by omega] at this
end
end Go.Proofs.YtgagnohelibaoaaDoor
