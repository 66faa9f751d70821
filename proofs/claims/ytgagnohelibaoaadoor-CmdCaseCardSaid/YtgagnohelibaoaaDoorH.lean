import Derived.Test.YtgagnohelibaoaaDoorF
/-! Code and functions without memory. -/
set_option linter.unusedSimpArgs false
set_option linter.unusedVariables false
namespace Go.Proofs.YtgagnohelibaoaaDoor
open Go.RowKit

abbrev Post := Exit → (Nat → PV) → (Nat → Option HObj) → Nat → Prop
/-- The names below N. -/
def belowN (N : Nat) : Nat → Prop := fun m => m < N
/-- A slot that code may write. -/
def wrC : Code → Nat → Bool
  | .region _ ops _, x => ops.toList.any fun o => o.dst == some x
  | .seq a b, x => wrC a x || wrC b x
  | .cond _ a b, x => wrC a x || wrC b x
  | .block _ b, x => wrC b x
  | .loop b, x => wrC b x
  | .scope b, x => wrC b x
  | _, _ => false
/-- Code in memory comes to where it comes to without, and leaves the slots that it does not write. -/
def AWp (P : Program) (nt : Nat) (c : Code) (Q : Post) (T : Nat → PV) (H : Nat → Option HObj) (N : Nat) : Prop :=
  ∀ (w0 : World) (S0 : Addr → Prop) (E : List (PV × Value)) (S : Addr → Prop) (μ : Nat → Value) (a : Act) (w : World), Sim nt w0 S0 E S μ ⟨T, H, belowN N⟩ a w →
    c.wp P (fun e a' w' => ∃ S' μ' T' H' N', Sim nt w0 S0 E S' μ' ⟨T', H', belowN N'⟩ a' w' ∧ Q e T' H' N' ∧ ∀ x, wrC c x = false → T' x = T x) a w

def thenQ (K : (Nat → PV) → (Nat → Option HObj) → Nat → Prop) (Q : Post) : Post
  | .normal, T, H, N => K T H N
  | e, T, H, N => Q e T H N
def blkQ (id : Nat) (Q : Post) : Post
  | .exit id', T, H, N => if id' = id then Q .normal T H N else Q (.exit id') T H N
  | e, T, H, N => Q e T H N
def wpc (P : Program) (M : List Nat) (nt : Nat) : Code → Post → (Nat → PV) → (Nat → Option HObj) → Nat → Prop
  | .skip, Q, T, H, N => Q .normal T H N
  | .region _ ops draw, Q, T, H, N => AOps P M draw ops (dstsOf ops) N ops.toList 0 T H [] fun T H => Q .normal T H (N + 8 * ops.size)
  | .seq a b, Q, T, H, N => wpc P M nt a (thenQ (wpc P M nt b Q) Q) T H N
  | .cond c a b, Q, T, H, N => BoK (ev T c) fun t => match t with
    | true => wpc P M nt a Q T H N
    | false => wpc P M nt b Q T H N
  | .block id b, Q, T, H, N => wpc P M nt b (blkQ id Q) T H N
  | .exit id, Q, T, H, N => Q (.exit id) T H N
  | .ret, Q, T, H, N => Q .ret T H N
  | .label _, Q, T, H, N => Q .normal T H N
  | .goto l, Q, T, H, N => Q (.goto l) T H N
  | c, Q, T, H, N => AWp P nt c Q T H N
/-- What is looked at ahead of all walks. -/
def codeOK (nt : Nat) : Code → Bool
  | .region _ ops draw => ops.toList.all (fun o => match o.dst with | some d => decide (d < nt) | none => true) && (!draw || regionOkD ops)
  | .seq a b => codeOK nt a && codeOK nt b
  | .cond _ a b => codeOK nt a && codeOK nt b
  | .block _ b => codeOK nt b
  | .loop b => codeOK nt b
  | .scope b => codeOK nt b
  | .rangeFunc _ _ _ _ => false
  | .refuse _ => false
  | _ => true

section
variable {P : Program} {nt : Nat} {M : List Nat}

theorem AWp.mono {c : Code} {Q Q' : Post} {T : Nat → PV} {H : Nat → Option HObj} {N : Nat} (h : AWp P nt c Q T H N) (hq : ∀ e T H N, Q e T H N → Q' e T H N) : AWp P nt c Q' T H N :=
  fun w0 S0 E S μ a w hs => wp_mono (h w0 S0 E S μ a w hs) fun e a' w' ⟨S', μ', T', H', N', h1, h2, h3⟩ => ⟨S', μ', T', H', N', h1, hq _ _ _ _ h2, h3⟩
theorem tr_frame {ds : List (Option Tmp)} {N : Nat} {T' : Nat → PV} {H' : Nat → Option HObj} : ∀ (os : List Oper) (i : Nat) (T : Nat → PV) (H : Nat → Option HObj) (rest : List Stp), TR P M ds N i os T H rest T' H' → ∀ x, (os.any fun o => o.dst == some x) = false → T' x = T x
  | [], _, T, _, [], h, x, _ => by rw [h.1]
  | [], _, _, _, _ :: _, h, _, _ => h.elim
  | _ :: _, _, _, _, [], h, _, _ => h.elim
  | o :: os, i, T, H, s :: rest, h, x, hx => by
    simp only [List.any_cons, Bool.or_eq_false_iff, beq_eq_false_iff_ne] at hx
    rw [tr_frame os _ _ _ rest h.2 x hx.2]
    unfold putT
    cases hd : o.dst with
    | none => rfl
    | some d => exact upd_ne _ _ (fun e => hx.1 (by rw [hd, e]))
theorem region_wp (hm : P.follows .mixedOrders = true) {id : Nat} {ops : Array Oper} {draw : Bool} {Q : Post} {T : Nat → PV} {H : Nat → Option HObj} {N : Nat} (hok : codeOK nt (.region id ops draw) = true)
    (h : AOps P M draw ops (dstsOf ops) N ops.toList 0 T H [] fun T H => Q .normal T H (N + 8 * ops.size)) : AWp P nt (.region id ops draw) Q T H N := by
  intro w0 S0 E S μ a w hs
  simp only [codeOK, Bool.and_eq_true, Bool.or_eq_true, Bool.not_eq_true', List.all_eq_true] at hok
  have hdst : ∀ o ∈ ops.toList, ∀ d, o.dst = some d → d < nt := fun o ho d hd => by
    have := hok.1 o ho
    rw [hd] at this
    simpa using this
  obtain ⟨ss, T', H', htr, hK, hfree⟩ := aops_tr (P := P) (M := M) (ops := ops) (N := N) ops.toList 0 T H [] [] rfl (fun _ k s hk => by simp at hk) h
  have hfr : ∀ x, wrC (.region id ops draw) x = false → T' x = T x := tr_frame ops.toList 0 T H ss htr
  have hs0 : Sim nt w0 S0 E S μ ⟨T, H, fun m => m < N + 8 * 0⟩ a w := hs.more (D' := fun m => m < N + 8 * 0) (fun m hm => by
    have : m < N := hm
    show m < _
    omega)
  cases draw with
  | false =>
    refine wp_region_list ?_
    exact tr_list (P := P) (M := M) (ops := ops) (N := N) (T' := T') (H' := H') ops.size (fun S μ a w hs => ⟨S, μ, T', H', _, hs, hK, hfr⟩) ops.toList 0 T H ss S μ a w htr (by simp) hdst hs0
  | true =>
    have hr : regionOkD ops = true := by simpa using hok.2
    refine wp_region_any hm ?_
    have hlen := tr_len _ _ _ _ _ htr
    have hss : ss.length = ops.size := by simpa using hlen
    obtain ⟨st1, st2⟩ := tr_steps (ss := ss) (T0 := T) (H0 := H) hr ops.toList 0 T H ss (by simp) (by simp) (by simp) htr (InvD.start _ (fun i => by omega))
    have hfp : FpsOK ops ss := fun i j si sj hij hi hj => by
      have := hfree rfl j sj hj i si (by simpa using hi) (by omega)
      rw [Nat.zero_add] at this
      exact this
    refine drawn_any (P := P) (M := M) (w0 := w0) (S0 := S0) (E := E) (ops := ops) (ss := ss) (T0 := T) (H0 := H) (N := N) hr hfp hss (fun i o ho => hdst o (List.mem_of_getElem? (by rw [Array.getElem?_toList]; exact ho))) (fun k o s ho hs => st1 k o s (by omega) ho hs) ?_ ops.size _ S μ T H a _ (by simp) ⟨fun i o hi => by
        exfalso
        rw [Array.getElem?_replicate] at hi
        split at hi <;> cases hi⟩ (InvD.start _ (fun i hi => by
        rw [Array.getElem?_replicate] at hi
        split at hi <;> cases hi)) ?_ ?_
    · intro S μ T2 H2 a w hinv hs2
      have eT : T2 = T' := funext fun x => by
        by_cases hex : ∃ k : Nat, k < ops.size ∧ (dstsOf ops)[k]? = some (some x)
        · obtain ⟨k, hk, hd⟩ := hex
          have hs' : ss[k]? = some (ss[k]'(by omega)) := List.getElem?_eq_getElem _
          rw [hinv.tdone k x _ hk hd hs', st2.tdone k x _ hk hd hs']
        · rw [hinv.tkept x fun k hk hd => hex ⟨k, hk, hd⟩, st2.tkept x fun k hk hd => hex ⟨k, hk, hd⟩]
      have eH : H2 = H' := funext fun n => by
        by_cases hex : ∃ k, k < ops.size ∧ ∃ s, ss[k]? = some s ∧ n ∈ namesW s.wr
        · obtain ⟨k, hk, ⟨s, hs, hn⟩, hmax⟩ := greatest (fun k => ∃ s, ss[k]? = some s ∧ n ∈ namesW s.wr) ops.size hex
          rw [hinv.hdone n k s hk hs hn (fun j sj hj hsj hnj => hmax j hj ⟨sj, hsj, hnj⟩), st2.hdone n k s hk hs hn (fun j sj hj hsj hnj => hmax j hj ⟨sj, hsj, hnj⟩)]
        · rw [hinv.hkept n fun k s hk hs hn => hex ⟨k, hk, s, hs, hn⟩, st2.hkept n fun k s hk hs hn => hex ⟨k, hk, s, hs, hn⟩]
      subst eT
      subst eH
      exact ⟨S, μ, T2, H2, _, hs2, hK, hfr⟩
    · exact (hs.drew).more (D' := LsD N _) (fun m hm => .inl hm)
    · unfold toCome
      exact Nat.le_trans List.countP_le_length (by simp)
theorem wpc_sound (hm : P.follows .mixedOrders = true) : ∀ (c : Code) (Q : Post) (T : Nat → PV) (H : Nat → Option HObj) (N : Nat), codeOK nt c = true → wpc P M nt c Q T H N → AWp P nt c Q T H N
  | .skip, Q, T, H, N, _, h => fun w0 S0 E S μ a w hs => wp_skip ⟨S, μ, T, H, N, hs, h, fun _ _ => rfl⟩
  | .region id ops draw, Q, T, H, N, hok, h => region_wp (M := M) hm hok h
  | .seq x y, Q, T, H, N, hok, h => by
    simp only [codeOK, Bool.and_eq_true] at hok
    intro w0 S0 E S μ a w hs
    refine wp_seq (wp_mono (wpc_sound hm x _ T H N hok.1 h w0 S0 E S μ a w hs) fun e a' w' ⟨S', μ', T', H', N', h1, h2, h3⟩ => ?_)
    have h3' : ∀ z, wrC (.seq x y) z = false → T' z = T z := fun z hz => h3 z (by simp only [wrC, Bool.or_eq_false_iff] at hz; exact hz.1)
    cases e with
    | normal =>
      refine wp_mono (wpc_sound hm y Q T' H' N' hok.2 h2 w0 S0 E S' μ' a' w' h1) fun e a2 w2 ⟨S2, μ2, T2, H2, N2, k1, k2, k3⟩ => ⟨S2, μ2, T2, H2, N2, k1, k2, fun z hz => ?_⟩
      rw [k3 z (by simp only [wrC, Bool.or_eq_false_iff] at hz; exact hz.2)]
      exact h3' z hz
    | _ => exact ⟨S', μ', T', H', N', h1, h2, h3'⟩
  | .cond c x y, Q, T, H, N, hok, h => by
    simp only [codeOK, Bool.and_eq_true] at hok
    intro w0 S0 E S μ a w hs
    simp only [wpc] at h
    unfold BoK at h
    split at h
    · rename_i b hb
      have hr := rel_ev hs.tmps c
      rw [hb] at hr
      have e := rel_bool hr
      unfold IfB at h
      refine wp_cond e ?_
      cases b with
      | true => exact wp_mono (wpc_sound hm x Q T H N hok.1 h w0 S0 E S μ a w hs) fun e a2 w2 ⟨S2, μ2, T2, H2, N2, k1, k2, k3⟩ => ⟨S2, μ2, T2, H2, N2, k1, k2, fun z hz => k3 z (by simp only [wrC, Bool.or_eq_false_iff] at hz; exact hz.1)⟩
      | false => exact wp_mono (wpc_sound hm y Q T H N hok.2 h w0 S0 E S μ a w hs) fun e a2 w2 ⟨S2, μ2, T2, H2, N2, k1, k2, k3⟩ => ⟨S2, μ2, T2, H2, N2, k1, k2, fun z hz => k3 z (by simp only [wrC, Bool.or_eq_false_iff] at hz; exact hz.2)⟩
    · exact h.elim
  | .block id b, Q, T, H, N, hok, h => by
    simp only [codeOK] at hok
    intro w0 S0 E S μ a w hs
    refine wp_block (wp_mono (wpc_sound hm b _ T H N hok h w0 S0 E S μ a w hs) fun e a' w' ⟨S', μ', T', H', N', h1, h2, h3⟩ => ?_)
    cases e with
    | exit id' =>
      simp only [blkQ] at h2
      simp only [Exit.inBlock]
      split
      · rename_i he
        rw [if_pos he] at h2
        exact ⟨S', μ', T', H', N', h1, h2, h3⟩
      · rename_i he
        rw [if_neg he] at h2
        exact ⟨S', μ', T', H', N', h1, h2, h3⟩
    | _ => exact ⟨S', μ', T', H', N', h1, h2, h3⟩
  | .exit id, Q, T, H, N, _, h => fun w0 S0 E S μ a w hs => wp_exit ⟨S, μ, T, H, N, hs, h, fun _ _ => rfl⟩
  | .ret, Q, T, H, N, _, h => fun w0 S0 E S μ a w hs => wp_ret ⟨S, μ, T, H, N, hs, h, fun _ _ => rfl⟩
  | .label l, Q, T, H, N, _, h => fun w0 S0 E S μ a w hs => wp_label ⟨S, μ, T, H, N, hs, h, fun _ _ => rfl⟩
  | .goto l, Q, T, H, N, _, h => fun w0 S0 E S μ a w hs => wp_goto ⟨S, μ, T, H, N, hs, h, fun _ _ => rfl⟩
  | .loop b, Q, T, H, N, _, h => h
  | .scope b, Q, T, H, N, _, h => h
  | .rangeFunc _ _ _ _, Q, T, H, N, hok, h => by simp [codeOK] at hok
  | .refuse _, Q, T, H, N, hok, h => by simp [codeOK] at hok

/-- A loop, with what holds at each round's head; n goes down. -/
theorem wp_loop_idx {Q : Exit → Act → World → Prop} {c : Code} (I : Nat → Act → World → Prop) (round : ∀ n a w, I n a w → c.wp P (Exit.then (fun a' w' => ∃ m, m < n ∧ I m a' w') Q) a w) {n : Nat} {a : Act} {w : World} (h0 : I n a w) : (Code.loop c).wp P Q a w := by
  intro b k cs
  have key : ∀ n a w, I n a w → ∃ e a' w', Q e a' w' ∧ Arrives P (lone (b.at a (.code c :: .inLoop c :: k)) cs w) b k cs e a' w' := by
    intro n
    induction n using Nat.strongRecOn with
    | _ n ih =>
      intro a w hI
      obtain ⟨e, a₁, w₁, hq, harr⟩ := round n a w hI b (.inLoop c :: k) cs
      cases e with
      | normal =>
        obtain ⟨m, hlt, hI₁⟩ := hq
        obtain ⟨e₂, a₂, w₂, hq₂, harr₂⟩ := ih m hlt a₁ w₁ hI₁
        exact ⟨e₂, a₂, w₂, hq₂, .of_steps (Steps.trans harr (.one step_inLoop)) harr₂⟩
      | exit id => exact ⟨_, a₁, w₁, hq, .pass (x := .inLoop c) rfl (fun _ _ => .inl (by simp)) harr⟩
      | goto l => exact ⟨_, a₁, w₁, hq, .pass (x := .inLoop c) rfl (fun _ _ => .inl (by simp)) harr⟩
      | ret => exact ⟨_, a₁, w₁, hq, .pass (x := .inLoop c) rfl (fun _ _ => .inl (by simp)) harr⟩
      | panic ch => exact ⟨_, a₁, w₁, hq, .pass (x := .inLoop c) rfl (fun _ _ => .inl (by simp)) harr⟩
      | outgrown => exact ⟨_, a₁, w₁, hq, .pass (x := .inLoop c) rfl (fun _ _ => .inl (by simp)) harr⟩
  obtain ⟨e, a', w', hq, harr⟩ := key n a w h0
  exact ⟨e, a', w', hq, .of_steps (.one step_loop) harr⟩
/-- Slots, some of them told anew. -/
def ovl (ws : List Nat) (f T : Nat → PV) : Nat → PV := fun x => if ws.contains x = true then f x else T x
theorem ovl_at (ws : List Nat) (f T : Nat → PV) (x : Nat) : ovl ws f T x = if ws.contains x = true then f x else T x := rfl
/-- All slots that code may write are among these. -/
def wrIn (ws : List Nat) : Code → Bool
  | .region _ ops _ => ops.toList.all fun o => match o.dst with | some d => ws.contains d | none => true
  | .seq a b => wrIn ws a && wrIn ws b
  | .cond _ a b => wrIn ws a && wrIn ws b
  | .block _ b => wrIn ws b
  | .loop b => wrIn ws b
  | .scope b => wrIn ws b
  | _ => true
theorem wrIn_of {ws : List Nat} : ∀ {c : Code}, wrIn ws c = true → ∀ x, wrC c x = true → ws.contains x = true
  | .region id ops dr, h, x, hx => by
    simp only [wrC, List.any_eq_true, beq_iff_eq] at hx
    obtain ⟨o, ho, hd⟩ := hx
    simp only [wrIn, List.all_eq_true] at h
    have := h o ho
    rw [hd] at this
    exact this
  | .seq a b, h, x, hx => by
    simp only [wrIn, Bool.and_eq_true] at h
    simp only [wrC, Bool.or_eq_true] at hx
    rcases hx with hx | hx
    · exact wrIn_of h.1 x hx
    · exact wrIn_of h.2 x hx
  | .cond _ a b, h, x, hx => by
    simp only [wrIn, Bool.and_eq_true] at h
    simp only [wrC, Bool.or_eq_true] at hx
    rcases hx with hx | hx
    · exact wrIn_of h.1 x hx
    · exact wrIn_of h.2 x hx
  | .block _ b, h, x, hx => wrIn_of (c := b) h x hx
  | .loop b, h, x, hx => wrIn_of (c := b) h x hx
  | .scope b, h, x, hx => wrIn_of (c := b) h x hx
  | .skip, _, x, hx => by simp [wrC] at hx
  | .exit _, _, x, hx => by simp [wrC] at hx
  | .ret, _, x, hx => by simp [wrC] at hx
  | .label _, _, x, hx => by simp [wrC] at hx
  | .goto _, _, x, hx => by simp [wrC] at hx
  | .rangeFunc _ _ _ _, _, x, hx => by simp [wrC] at hx
  | .refuse _, _, x, hx => by simp [wrC] at hx
theorem loop_rule (hm : P.follows .mixedOrders = true) {c : Code} (hok : codeOK nt c = true) (ws : List Nat) (hws : wrIn ws c = true) (I : Nat → (Nat → PV) → (Nat → Option HObj) → Nat → Prop) {Q : Post} {T : Nat → PV} {H : Nat → Option HObj} {N : Nat}
    (h0 : ∃ n, I n T H N) (round : ∀ n f H' N', I n f H' N' → wpc P M nt c (thenQ (fun T' H' N' => ∃ m, m < n ∧ I m T' H' N') Q) (ovl ws f T) H' N') : AWp P nt (.loop c) Q T H N := by
  intro w0 S0 E S μ a w hs
  obtain ⟨n, h0⟩ := h0
  refine wp_loop_idx (fun n a w => ∃ S μ T' H N, Sim nt w0 S0 E S μ ⟨T', H, belowN N⟩ a w ∧ I n T' H N ∧ ∀ x, wrC c x = false → T' x = T x) ?_ (n := n) ⟨S, μ, T, H, N, hs, h0, fun _ _ => rfl⟩
  rintro n a w ⟨S, μ, T', H', N', hs, hI, hfr⟩
  have e : ovl ws T' T = T' := funext fun x => by
    unfold ovl
    split
    · rfl
    · rename_i hx
      refine (hfr x ?_).symm
      cases hc : wrC c x with
      | false => rfl
      | true => exact absurd (wrIn_of hws x hc) hx
  have hr := round n T' H' N' hI
  rw [e] at hr
  refine wp_mono (wpc_sound hm c _ T' H' N' hok hr w0 S0 E S μ a w hs) fun e a' w' ⟨S', μ', T2, H2, N2, h1, h2, h3⟩ => ?_
  have h3' : ∀ x, wrC c x = false → T2 x = T x := fun x hx => (h3 x hx).trans (hfr x hx)
  cases e with
  | normal =>
    obtain ⟨m, hlt, hI'⟩ := h2
    exact ⟨m, hlt, S', μ', T2, H2, N2, h1, hI', h3'⟩
  | _ => exact ⟨S', μ', T2, H2, N2, h1, h2, h3'⟩

/-- What a function returns. -/
def resV (P : Program) (T : Nat → PV) (H : Nat → Option HObj) : List ResultVar → Option (List PV)
  | [] => some []
  | .tmp t :: rs => match resV P T H rs with
    | some ps => some (T t :: ps)
    | none => none
  | .cell a t :: rs => match loadE P t H (T a) with
    | some r => match resV P T H rs with
      | some ps => some (r.val :: ps)
      | none => none
    | none => none
def tupV : List PV → PV
  | [p] => p
  | ps => .tup ps
/-- A result with tokens (ts) is what was left, its names told by φ. -/
def finC (ts : List Nat) (φ : Nat → Nat) (r p : PV) : Prop :=
  match r with
  | .sl t xs => if 2 ≤ t then t ∈ ts ∧ p = .sl (φ t) xs else stripC p = some (.sl t xs)
  | r => stripC p = some r
def finL (ts : List Nat) (φ : Nat → Nat) : List PV → List PV → Prop
  | [], [] => True
  | r :: rs, p :: ps => finC ts φ r p ∧ finL ts φ rs ps
  | _, _ => False
def fin1 (ts : List Nat) (φ : Nat → Nat) (r p : PV) : Prop :=
  match r with
  | .agg rs => match p with
    | .agg ps => finL ts φ rs ps
    | _ => False
  | r => finC ts φ r p
def fin1L (ts : List Nat) (φ : Nat → Nat) : List PV → List PV → Prop
  | [], [] => True
  | r :: rs, p :: ps => fin1 ts φ r p ∧ fin1L ts φ rs ps
  | _, _ => False
def finE (ts : List Nat) (φ : Nat → Nat) (r p : PV) : Prop :=
  match r with
  | .tup rs => match p with
    | .tup ps => fin1L ts φ rs ps
    | _ => False
  | r => fin1 ts φ r p
/-- The rows of a slice that lies in a box. -/
def rowsN (l : List PV) (k n : Nat) : List (List PV) := (List.range n).map fun i => (l.drop (i * k)).take k
/-- What is returned, without box and token: a slice that lies in a box is read. -/
def endB (off k n : Nat) : Option HObj → Option PV
  | some (.box cs) => if off + n * k ≤ cs.length ∧ ((cs.drop off).take (n * k)).all PV.one = true then match stripL ((cs.drop off).take (n * k)) with
    | some l => some (.sl 1 (rowsN l k n))
    | none => none
    else none
  | _ => none
def end1 (H : Nat → Option HObj) : PV → Option PV
  | .bs nm off k n _ => endB off k n (H nm)
  | p => strip1 p
def endL (H : Nat → Option HObj) : List PV → Option (List PV)
  | [] => some []
  | p :: ps => match end1 H p with
    | none => none
    | some q => match endL H ps with
      | none => none
      | some qs => some (q :: qs)
def endE (H : Nat → Option HObj) : PV → Option PV
  | .tup cs => match endL H cs with
    | some l => some (.tup l)
    | none => none
  | p => end1 H p
/-- The end of a function's walk. -/
def endQ (P : Program) (rs : List ResultVar) (r : PV) : Post := fun e T H _ =>
  match e with
  | .normal => ∃ ps, resV P T H rs = some ps ∧ endE H (tupV ps) = some r
  | .ret => ∃ ps, resV P T H rs = some ps ∧ endE H (tupV ps) = some r
  | _ => False
def endT (P : Program) (rs : List ResultVar) (r : PV) (toks : List (Nat × TypeId × Nat × Nat)) : Post := fun e T H _ =>
  (match e with | .normal => True | .ret => True | _ => False) ∧ ∃ ps φ, resV P T H rs = some ps ∧ finE (toks.map (·.1)) φ r (tupV ps) ∧ (∀ x ∈ toks, (2 ≤ x.1 ∧ x.1 < 8) ∧ H (φ x.1) = some (.tok x.2.1 x.2.2.1 x.2.2.2)) ∧ (∀ x ∈ toks, ∀ y ∈ toks, x ≠ y → φ x.1 ≠ φ y.1)

section
variable {S : Addr → Prop} {μ : Nat → Value} {D : Nat → Prop} {w : World} {φ : Nat → Nat} {ts : List Nat}
theorem finC_rel {r p : PV} {v : Value} (hφ : ∀ t ∈ ts, t < 8 ∧ 2 ≤ φ t) (h : Rel S μ D w p v) (hf : finC ts φ r p) : Rel S (fun t => μ (φ t)) (fun m => m < 8) w r v := by
  cases r with
  | sl t xs =>
    unfold finC at hf
    simp only at hf
    split at hf
    · rename_i h2
      obtain ⟨h8, rfl⟩ := hf
      have h3 := hφ t h8
      cases h with
      | c h =>
        exfalso
        cases h
        omega
      | tok _ _ _ h2' hx hv h => exact .tok t xs v h2 h3.1 hv h
    · exact .c (rel_stripC h hf)
  | _ => exact .c (rel_stripC h hf)
theorem finL_get : ∀ {rs ps : List PV}, finL ts φ rs ps → ps.length = rs.length ∧ ∀ (i : Nat) r, rs[i]? = some r → ∃ p, ps[i]? = some p ∧ finC ts φ r p
  | [], [], _ => ⟨rfl, fun i r h => by simp at h⟩
  | [], _ :: _, h => h.elim
  | _ :: _, [], h => h.elim
  | r :: rs, p :: ps, h => by
    obtain ⟨h1, h2⟩ := finL_get h.2
    refine ⟨by simp [h1], fun i r' hi => ?_⟩
    cases i with
    | zero => simp at hi; subst hi; exact ⟨p, rfl, h.1⟩
    | succ i => simpa using h2 i r' (by simpa using hi)
theorem fin1_rel {r p : PV} {v : Value} (hφ : ∀ t ∈ ts, t < 8 ∧ 2 ≤ φ t) (h : Rel S μ D w p v) (hf : fin1 ts φ r p) : Rel S (fun t => μ (φ t)) (fun m => m < 8) w r v := by
  cases r with
  | agg rs =>
    simp only [fin1] at hf
    split at hf
    · rename_i ps
      obtain ⟨arr, rfl, hs, hr⟩ := rel_agg h
      obtain ⟨h1, h2⟩ := finL_get hf
      refine .agg _ _ (by omega) fun i r hi => ?_
      obtain ⟨p, hp, hc⟩ := h2 i r hi
      exact finC_rel hφ (hr i p hp) hc
    · exact hf.elim
  | _ => exact finC_rel hφ h hf
theorem fin1L_get : ∀ {rs ps : List PV}, fin1L ts φ rs ps → ps.length = rs.length ∧ ∀ (i : Nat) r, rs[i]? = some r → ∃ p, ps[i]? = some p ∧ fin1 ts φ r p
  | [], [], _ => ⟨rfl, fun i r h => by simp at h⟩
  | [], _ :: _, h => h.elim
  | _ :: _, [], h => h.elim
  | r :: rs, p :: ps, h => by
    obtain ⟨h1, h2⟩ := fin1L_get h.2
    refine ⟨by simp [h1], fun i r' hi => ?_⟩
    cases i with
    | zero => simp at hi; subst hi; exact ⟨p, rfl, h.1⟩
    | succ i => simpa using h2 i r' (by simpa using hi)
theorem finE_rel {r p : PV} {v : Value} (hφ : ∀ t ∈ ts, t < 8 ∧ 2 ≤ φ t) (h : Rel S μ D w p v) (hf : finE ts φ r p) : Rel S (fun t => μ (φ t)) (fun m => m < 8) w r v := by
  cases r with
  | tup rs =>
    simp only [finE] at hf
    split at hf
    · rename_i ps
      obtain ⟨arr, rfl, hs, hr⟩ := rel_tup h
      obtain ⟨h1, h2⟩ := fin1L_get hf
      refine .tup _ _ (by omega) fun i r hi => ?_
      obtain ⟨p, hp, hc⟩ := h2 i r hi
      exact fin1_rel hφ (hr i p hp) hc
    · exact hf.elim
  | _ => exact fin1_rel hφ h hf
end

/-- The cells that stay for good, and all boxes' cells. -/
def plusA (S : Addr → Prop) (H : Nat → Option HObj) (μ : Nat → Value) : Addr → Prop := fun b => S b ∨ (b.spot = none ∧ ∃ nm cs, H nm = some (.box cs) ∧ blk (μ nm) = some b.block ∧ b.off < cs.length)
section
variable {nt : Nat} {w0 : World} {S0 : Addr → Prop} {E : List (PV × Value)} {S : Addr → Prop} {μ : Nat → Value} {st : St} {a : Act} {w : World}
theorem end1_rel (h : Sim nt w0 S0 E S μ st a w) {p q : PV} {v : Value} (he : end1 st.H p = some q) (hr : Rel S μ st.D w p v) : CRel (plusA S st.H μ) w q v := by
  cases p with
  | bs nm off k n m =>
    simp only [end1] at he
    unfold endB at he
    split at he
    · rename_i cs hcs
      split at he
      · rename_i hc
        obtain ⟨hle, hone⟩ := hc
        split at he
        · rename_i l hl
          cases he
          obtain ⟨g, o, c, rfl, hD, hg, ho, hn, hm, hcm⟩ := rel_bs hr
          obtain ⟨g', hg', hB, hlt, hcell, hfr, hS⟩ := h.heap nm _ hcs
          rw [hg] at hg'
          have hgg : g' = g := by injection hg' with h; injection h with h; injection h with h; exact h.symm
          subst hgg
          obtain ⟨hll, hlg⟩ := stripL_get hl
          have hlen : l.length = n * k := by rw [← hll]; simp; omega
          have hall : ∀ j : Nat, ∃ u : Value, u.oneCell' = true ∧ ∀ p, l[j]? = some p → off + j < cs.length ∧ w.cell? ⟨g', off + j, none⟩ = some u ∧ CRel S w p u := fun j => by
            cases hj : l[j]? with
            | none => exact ⟨.nilFunc, rfl, fun p h => by cases h⟩
            | some p =>
              obtain ⟨q0, hq0, hq1⟩ := hlg j p hj
              have hq0' := hq0
              rw [List.getElem?_take] at hq0
              split at hq0
              · rw [List.getElem?_drop] at hq0
                obtain ⟨u, hu, hru⟩ := hcell _ q0 hq0
                refine ⟨u, one_one hru (List.all_eq_true.1 hone q0 (List.mem_of_getElem? hq0')), fun p' h => ?_⟩
                cases h
                exact ⟨(List.getElem?_eq_some_iff.1 hq0).1, hu, rel_stripC hru hq1⟩
              · cases hq0
          obtain ⟨u, hu⟩ := Classical.axiomOfChoice hall
          have hrl : (rowsN l k n).length = n := by simp [rowsN]
          have hget : ∀ (i : Nat) x, (rowsN l k n)[i]? = some x → i < n ∧ x = (l.drop (i * k)).take k := fun i x hx => by
            unfold rowsN at hx
            rw [List.getElem?_map] at hx
            by_cases hi : i < n
            · rw [List.getElem?_range hi] at hx
              simp at hx
              exact ⟨hi, hx.symm⟩
            · rw [List.getElem?_eq_none (by simp; omega)] at hx
              cases hx
          have hin : ∀ (i j : Nat) p, i < n → ((l.drop (i * k)).take k)[j]? = some p → j < k ∧ l[i * k + j]? = some p := fun i j p hi hp => by
            rw [List.getElem?_take] at hp
            split at hp
            · rename_i hj
              rw [List.getElem?_drop] at hp
              exact ⟨hj, hp⟩
            · cases hp
          have key : CRel (plusA S st.H μ) w (.sl 1 (rowsN l k n)) (.slice (some ⟨g', o, none⟩) (rowsN l k n).length c) := by
            refine .sl 1 (rowsN l k n) (some ⟨g', o, none⟩) c k (fun i j => u (i * k + j)) (by omega) (fun h => by cases h) (fun h => by cases h) (by rw [hrl]; omega) hcm (fun x hx => ?_) (fun i j => (hu _).1) (fun i j x p hx hp => ?_) (fun i j x p hx hp => ?_)
            · obtain ⟨i, hi⟩ := List.getElem?_of_mem hx
              obtain ⟨hin', rfl⟩ := hget i x hi
              have : i * k + k ≤ n * k := by
                have : (i + 1) * k ≤ n * k := Nat.mul_le_mul_right k (by omega)
                rw [Nat.add_mul] at this
                omega
              simp
              omega
            · obtain ⟨hi, rfl⟩ := hget i x hx
              obtain ⟨hj, hp'⟩ := hin i j p hi hp
              obtain ⟨h1, h2, h3⟩ := (hu _).2 p hp'
              have ho' : o = off := ho (by omega)
              subst ho'
              refine ⟨_, rfl, ?_, ?_⟩
              · rw [Addr.add_lit]
                exact .inr ⟨rfl, nm, cs, hcs, by rw [hg]; rfl, h1⟩
              · rw [Addr.add_lit]
                exact h2
            · obtain ⟨hi, rfl⟩ := hget i x hx
              obtain ⟨hj, hp'⟩ := hin i j p hi hp
              exact ((hu _).2 p hp').2.2.mono (fun _ h => .inl h) (fun _ _ => rfl)
          rw [hrl] at key
          exact key
        · cases he
      · cases he
    · cases he
  | _ => exact (rel_strip1 hr (by simpa only [end1] using he)).mono (fun _ h => .inl h) (fun _ _ => rfl)
theorem endL_get {H : Nat → Option HObj} : ∀ {ps qs : List PV}, endL H ps = some qs → ps.length = qs.length ∧ ∀ (i : Nat) q, qs[i]? = some q → ∃ p, ps[i]? = some p ∧ end1 H p = some q
  | [], qs, h => by cases h; exact ⟨rfl, fun i q h => by simp at h⟩
  | p :: ps, qs, h => by
    unfold endL at h
    split at h
    · cases h
    · rename_i q hq
      split at h
      · cases h
      · rename_i qs' hqs
        cases h
        obtain ⟨h1, h2⟩ := endL_get hqs
        refine ⟨by simp [h1], fun i q' hi => ?_⟩
        cases i with
        | zero => simp at hi; subst hi; exact ⟨p, rfl, hq⟩
        | succ i => simpa using h2 i q' (by simpa using hi)
theorem endE_rel (h : Sim nt w0 S0 E S μ st a w) {p q : PV} {v : Value} (he : endE st.H p = some q) (hr : Rel S μ st.D w p v) : CRel (plusA S st.H μ) w q v := by
  cases p with
  | tup cs =>
    simp only [endE] at he
    split at he
    · rename_i l hl
      cases he
      obtain ⟨arr, rfl, hs, hrr⟩ := rel_tup hr
      obtain ⟨h1, h2⟩ := endL_get hl
      refine .tup l arr (by omega) fun i q hi => ?_
      obtain ⟨p, hp, hpq⟩ := h2 i q hi
      exact end1_rel h hpq (hrr i p hp)
    · cases he
  | _ => exact end1_rel h (by simpa only [endE] using he) hr
end
theorem resV_run {nt : Nat} {w0 : World} {S0 : Addr → Prop} {E : List (PV × Value)} {S : Addr → Prop} {μ : Nat → Value} {st : St} {a : Act} {w : World} (hs : Sim nt w0 S0 E S μ st a w) : ∀ {rs : List ResultVar} {ps : List PV}, resV P st.T st.H rs = some ps →
    ∃ vs : List Value, (rs.mapM fun (r : ResultVar) => (match r with | .tmp t => pure (a.tmps.getD t undef) | .cell x t => do loadVar t (← asAddr (a.tmps.getD x undef)) : Sem Value)).run P w = .ok vs w ∧ vs.length = ps.length ∧ ∀ (i : Nat) p, ps[i]? = some p → Rel S μ st.D w p (vs.getD i undef)
  | [], ps, h => by
    simp only [resV, Option.some.injEq] at h
    subst h
    exact ⟨[], by simp, rfl, fun i p h => by simp at h⟩
  | .tmp t :: rs, ps, h => by
    simp only [resV] at h
    split at h
    · rename_i ps' hps
      cases h
      obtain ⟨vs, h1, h2, h3⟩ := resV_run hs hps
      refine ⟨a.tmps.getD t undef :: vs, ?_, by simp [h2], fun i p hi => ?_⟩
      · simp only [List.mapM_cons, Sem.run_bind, Sem.run_pure, Result.andThen_ok, h1]
      · cases i with
        | zero => simp at hi; subst hi; exact hs.tmps t
        | succ i => simpa using h3 i p (by simpa using hi)
    · cases h
  | .cell x t :: rs, ps, h => by
    simp only [resV] at h
    split at h
    · rename_i r hr
      split at h
      · rename_i ps' hps
        cases h
        obtain ⟨vs, h1, h2, h3⟩ := resV_run hs hps
        obtain ⟨⟨v, hv, hrv⟩, _⟩ := st_load (P := P) (o := ⟨none, .load t (.tmp x), 0, "", #[], none⟩) (ρ := a.eval) rfl hs.heap hr (rel_ev hs.tmps (.tmp x))
        have hl : ∃ ad, a.tmps.getD x undef = .pointer (some ad) := by
          have := hs.tmps x
          unfold loadE at hr
          split at hr
          · rename_i nm off heq
            rw [heq] at this
            obtain ⟨g, e, _⟩ := rel_ptr this
            exact ⟨_, e⟩
          · rename_i cs heq
            rw [heq] at this
            obtain ⟨ad, u, e, _⟩ := rel_iptr this
            exact ⟨_, e⟩
          · cases hr
        obtain ⟨ad, had⟩ := hl
        have hlv : (loadVar t ad).run P w = .ok v w := by
          have hev : a.eval (.tmp x) = a.tmps.getD x undef := rfl
          simp only [execOp, hev, had, Instr.loadAt, Instr.sureAddr, Sem.run_bind, Sem.run_pure, Result.andThen_ok] at hv
          generalize hq : (loadVar t ad).run P w = q at hv
          cases q with
          | ok u w' =>
            simp only [Result.andThen_ok, Sem.run_pure] at hv
            injection hv with h1 h2
            injection h1 with h1
            rw [h1, h2]
          | halt e w' => cases hv
        refine ⟨v :: vs, ?_, by simp [h2], fun i p hi => ?_⟩
        · have hasA : (asAddr (a.tmps.getD x undef)).run P w = .ok ad w := by rw [had]; rfl
          simp only [List.mapM_cons, Sem.run_bind, Sem.run_pure, Result.andThen_ok, hasA, hlv, h1]
        · cases i with
          | zero => simp at hi; subst hi; exact hrv
          | succ i => simpa using h3 i p (by simpa using hi)
      · cases h
    · cases h
/-- What is returned is what was left. -/
theorem results_run {nt : Nat} {w0 : World} {S0 : Addr → Prop} {E : List (PV × Value)} {S : Addr → Prop} {μ : Nat → Value} {st : St} {a : Act} {w : World} (hs : Sim nt w0 S0 E S μ st a w) {fn : Func} {ps : List PV} (h : resV P st.T st.H fn.results.toList = some ps) :
    ∃ v, (results fn a.tmps).run P w = .ok v w ∧ Rel S μ st.D w (tupV ps) v := by
  obtain ⟨vs, h1, h2, h3⟩ := resV_run hs h
  have hm : (fn.results.mapM fun (r : ResultVar) => (match r with | .tmp t => pure (a.tmps.getD t undef) | .cell x t => do loadVar t (← asAddr (a.tmps.getD x undef)) : Sem Value)).run P w = .ok vs.toArray w := by
    rw [Array.mapM_eq_mapM_toList]
    simp only [Sem.run_map, h1, Result.andThen_ok]
  unfold results
  match vs, ps, h2, h3, hm with
  | [v], [p], _, h3, hm =>
    refine ⟨v, ?_, h3 0 p rfl⟩
    simp only [Sem.run_bind]
    erw [hm]
    simp
  | [], [], _, h3, hm =>
    refine ⟨.tuple #[], ?_, .tup _ _ rfl fun i p hi => by simp at hi⟩
    simp only [Sem.run_bind]
    erw [hm]
    simp
  | v :: v' :: vs, p :: p' :: ps, h2, h3, hm =>
    refine ⟨.tuple (v :: v' :: vs).toArray, ?_, .tup _ _ (by simpa using h2) fun i q hi => ?_⟩
    · simp only [Sem.run_bind]
      erw [hm]
      simp
    · have := h3 i q hi
      simpa [List.getD_eq_getElem?_getD, Array.getD_eq_getD_getElem?] using this
  | [], _ :: _, h2, _, _ => simp at h2
  | _ :: _, [], h2, _, _ => simp at h2
  | [_], _ :: _ :: _, h2, _, _ => simp at h2
  | _ :: _ :: _, [_], h2, _, _ => simp at h2

/-- The slots of a function that is entered. -/
def initT (args : List PV) : Nat → PV := fun i => args.getD i .undef
theorem enter_sim {n : Nat} {args : List PV} {w : World} {S : Addr → Prop} {vs : List Value} (hG : Good w) (hS : ∀ a, S a → a.block < w.heap.size ∧ a.spot = none) (hl : vs.length = args.length) (hn : args.length ≤ n) (hr : ∀ (i : Nat) p, args[i]? = some p → CRel S w p (vs.getD i undef)) :
    Sim n w S [] S (fun _ => .nilFunc) ⟨initT args, fun _ => none, belowN 8⟩ { tmps := vs.toArray ++ Array.replicate (n - vs.toArray.size) undef, defers := [] } w := by
  refine ⟨rfl, by simp; omega, fun i => ?_, fun p hp => by simp at hp, fun nm o h => by simp at h, fun nm nm' o o' h => by simp at h, fun _ _ => rfl, Below.refl _ _, fun a _ => Iff.rfl, hS, fun m hm => by show m < 8; omega, hG⟩
  show Rel _ _ _ _ (initT args i) _
  unfold initT
  cases hi : args[i]? with
  | none => rw [List.getD_eq_getElem?_getD, hi]; exact .c (.undef _)
  | some p =>
    have h1 := hr i p hi
    have hlt := (List.getElem?_eq_some_iff.1 hi).1
    rw [List.getD_eq_getElem?_getD, hi]
    have : (vs.toArray ++ Array.replicate (n - vs.toArray.size) undef).getD i undef = vs.getD i undef := by
      rw [Array.getD_eq_getD_getElem?, Array.getElem?_append_left (by simpa [hl] using hlt)]
      simp [List.getD_eq_getElem?_getD]
    rw [this]
    exact .c h1
theorem callsTo_of (hm : P.follows .mixedOrders = true) {f : FuncId} {fn : Func} {c : Code} {nt : Nat} {rs : List ResultVar} (hf : P.funcs[f]? = some fn) (hb : fn.body = some c) (hnt : fn.ntmps = nt) (hrs : fn.results = rs.toArray) (hname : (fn.name == "runtime.NumGoroutine") = false) (hok : codeOK nt c = true) {args : List PV} (hn : args.length ≤ nt) {r : PV}
    (M : List Nat) (h : wpc P M nt c (endQ P rs r) (initT args) (fun _ => none) 8) : CallsTo P f args r [] := by
  subst hnt
  obtain rfl : rs = fn.results.toList := by rw [hrs]
  refine ⟨by unfold callable; rw [hf]; simp [hb, hname], fun w S vs hG hS hl hr => calls_of_wp hf hb ?_⟩
  refine wp_mono (wpc_sound hm c _ _ _ _ hok h w S [] S _ _ w (enter_sim hG hS hl hn hr)) fun e a' w' ⟨S', μ', T', H', N', hs, hq, _⟩ => ?_
  have fin : (∃ ps, resV P T' H' fn.results.toList = some ps ∧ endE H' (tupV ps) = some r) → a'.defers = [] ∧ ∃ v, (results fn a'.tmps).run P w' = .ok v w' ∧ ∃ v_1 S'_1 μ, Ending.returned v = Ending.returned v_1 ∧ Below w.heap.size w w' ∧ (∀ a : Addr, a.block < w.heap.size → (S'_1 a ↔ S a)) ∧ (∀ a, S'_1 a → a.block < w'.heap.size ∧ a.spot = none) ∧
      Rel S'_1 μ (fun m => m < 8) w' r v_1 ∧ (([] : List (Nat × TypeId × Nat × Nat)) = [] → CRel S'_1 w' r v_1) ∧ (∀ t e k n, (t, e, k, n) ∈ ([] : List (Nat × TypeId × Nat × Nat)) → t < 8 ∧ HRel w.heap.size S'_1 μ (fun m => m < 8) w' t (.tok e k n)) ∧ (∀ x ∈ ([] : List (Nat × TypeId × Nat × Nat)), ∀ y ∈ ([] : List (Nat × TypeId × Nat × Nat)), x ≠ y → ∀ g, blk (μ x.1) = some g → blk (μ y.1) ≠ some g) := by
    rintro ⟨ps, h1, h2⟩
    obtain ⟨v, hv, hrel⟩ := results_run hs h1
    have hc := endE_rel hs h2 hrel
    refine ⟨hs.defers, v, hv, v, plusA S' H' μ', μ', rfl, hs.below, fun b hb => ⟨fun h => ?_, fun h => .inl ((hs.s0 b hb).2 h)⟩, fun b hb => ?_, .c hc, fun _ => hc, fun _ _ _ _ h => by simp at h, fun _ h => by simp at h⟩
    · rcases h with h | ⟨_, nm, cs, hcs, hbk, _⟩
      · exact (hs.s0 b hb).1 h
      · have := (hrel_blk (hs.heap nm _ hcs) _ hbk).1
        omega
    · rcases hb with h | ⟨h1, nm, cs, hcs, hbk, _⟩
      · exact hs.slt b h
      · exact ⟨(hrel_blk (hs.heap nm _ hcs) _ hbk).2, h1⟩
  cases e with
  | normal => exact fin hq
  | ret => exact fin hq
  | _ => exact hq.elim
theorem callsTo_ofT (hm : P.follows .mixedOrders = true) {f : FuncId} {fn : Func} {c : Code} {nt : Nat} {rs : List ResultVar} (hf : P.funcs[f]? = some fn) (hb : fn.body = some c) (hnt : fn.ntmps = nt) (hrs : fn.results = rs.toArray) (hname : (fn.name == "runtime.NumGoroutine") = false) (hok : codeOK nt c = true) {args : List PV} (hn : args.length ≤ nt) {r : PV} {toks : List (Nat × TypeId × Nat × Nat)} (hne : toks ≠ [])
    (M : List Nat) (h : wpc P M nt c (endT P rs r toks) (initT args) (fun _ => none) 8) : CallsTo P f args r toks := by
  subst hnt
  obtain rfl : rs = fn.results.toList := by rw [hrs]
  refine ⟨by unfold callable; rw [hf]; simp [hb, hname], fun w S vs hG hS hl hr => calls_of_wp hf hb ?_⟩
  refine wp_mono (wpc_sound hm c _ _ _ _ hok h w S [] S _ _ w (enter_sim hG hS hl hn hr)) fun e a' w' ⟨S', μ', T', H', N', hs, hq, _⟩ => ?_
  obtain ⟨he, ps, φ, h1, h2, h3, h4⟩ := hq
  obtain ⟨v, hv, hrel⟩ := results_run hs h1
  have htk : ∀ x ∈ toks, x.1 < 8 ∧ HRel w.heap.size S' μ' (belowN N') w' (φ x.1) (.tok x.2.1 x.2.2.1 x.2.2.2) := fun x hx => ⟨(h3 x hx).1.2, hs.heap _ _ (h3 x hx).2⟩
  have fin : a'.defers = [] ∧ ∃ v, (results fn a'.tmps).run P w' = .ok v w' ∧ ∃ v_1 S'_1 μ, Ending.returned v = Ending.returned v_1 ∧ Below w.heap.size w w' ∧ (∀ a : Addr, a.block < w.heap.size → (S'_1 a ↔ S a)) ∧ (∀ a, S'_1 a → a.block < w'.heap.size ∧ a.spot = none) ∧
      Rel S'_1 μ (fun m => m < 8) w' r v_1 ∧ (toks = [] → CRel S'_1 w' r v_1) ∧ (∀ t e k n, (t, e, k, n) ∈ toks → t < 8 ∧ HRel w.heap.size S'_1 μ (fun m => m < 8) w' t (.tok e k n)) ∧ (∀ x ∈ toks, ∀ y ∈ toks, x ≠ y → ∀ g, blk (μ x.1) = some g → blk (μ y.1) ≠ some g) := by
    refine ⟨hs.defers, v, hv, v, S', fun t => μ' (φ t), rfl, hs.below, hs.s0, hs.slt, finE_rel (ts := toks.map (·.1)) (fun t ht => ?_) hrel h2, fun h => absurd h hne, fun t e k n hx => ⟨(htk _ hx).1, ?_⟩, fun x hx y hy hxy g hg => ?_⟩
    · obtain ⟨x, hx, rfl⟩ := List.mem_map.1 ht
      obtain ⟨h8, vs', h2', _⟩ := htk x hx
      exact ⟨h8, h2'⟩
    · obtain ⟨_, vs', _, h6, h7⟩ := htk _ hx
      exact ⟨vs', (h3 _ hx).1.1, h6, h7⟩
    · exact hs.apart _ _ _ _ (h3 x hx).2 (h3 y hy).2 (h4 x hx y hy hxy) g hg
  cases e with
  | normal => exact fin
  | ret => exact fin
  | _ => exact he.elim
end
end Go.Proofs.YtgagnohelibaoaaDoor
