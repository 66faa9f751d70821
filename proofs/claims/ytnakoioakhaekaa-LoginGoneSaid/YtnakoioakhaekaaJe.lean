import Derived.Test.YtnakoioakhaekaaJd
import Derived.Test.YtnakoioakhaekaaHc
/-! The map of ways: its literal draws the order of its entries. -/
set_option linter.unusedSimpArgs false
set_option linter.unusedVariables false
set_option maxHeartbeats 4000000
set_option maxRecDepth 100000
namespace Go.Proofs.Ytnakoioakhaekaa
open Go.RowKit

def wayE (a b c d : Int) : PV × PV := (.agg [.int .i64 a, .int .i64 b], .agg [.int .i64 c, .int .i64 d])
def waysP : List (PV × PV) := [wayE 2 220 3 1, wayE 3 331 4 2, wayE 3 230 6 4, wayE 3 232 6 4, wayE 5 230 6 4, wayE 5 232 6 4]
def wayJ (j : Nat) : PV × PV := waysP.getD j (.undef, .undef)
theorem six {Q : Nat → Prop} (h0 : Q 0) (h1 : Q 1) (h2 : Q 2) (h3 : Q 3) (h4 : Q 4) (h5 : Q 5) : ∀ j, j < 6 → Q j := fun j hj => by
  rcases j with _ | _ | _ | _ | _ | _ | j <;> first | assumption | omega
theorem key_ne : ∀ j, j < 6 → ∀ i, i < 6 → i ≠ j → keyE Try.prog 53 (wayJ j).1 (wayJ i).1 = some false := by
  refine six ?_ ?_ ?_ ?_ ?_ ?_
  all_goals refine six ?_ ?_ ?_ ?_ ?_ ?_
  all_goals first
    | (intro h; exact absurd rfl h)
    | (intro _; kernel_rfl)
def regOps : Code → Array Oper
  | .seq _ (.seq (.region _ ops _) _) => ops
  | _ => #[]
noncomputable def waysC : Code := Try.f30.body.getD .skip
noncomputable def waysOps : Array Oper := regOps waysC
theorem ways_code : Try.f30.body = some waysC := by kernel_rfl
/-- How things stand, whatever is done. -/
structure WayI (N : Nat) (H0 : Nat → Option HObj) (L : Nat → Prop) (T : Nat → PV) (H : Nat → Option HObj) : Prop where
  a : L 0 → T 1 = .mp N
  b : ∀ j, j < 6 → L (1 + 3 * j) → T (2 + 2 * j) = (wayJ j).1
  c : ∀ j, j < 6 → L (2 + 3 * j) → T (3 + 2 * j) = (wayJ j).2
  d : L 19 → T 14 = .mp N
  e : L 20 → T 0 = .mp N
  f : ∀ x, x ≠ N → H x = H0 x
  g : L 0 → ∃ es, H N = some (.map es) ∧ (∀ e, e ∈ es ↔ ∃ j, j < 6 ∧ L (3 + 3 * j) ∧ e = wayJ j) ∧ (es.map (·.1)).Nodup
theorem ways_size : waysOps.size = 21 := by kernel_rfl
noncomputable def depB (i : Nat) (ds : List Nat) : Bool := match waysOps[i]? with
  | some o => ds.all fun d => (depsL o).contains d
  | none => false
theorem dep_of {i : Nat} {o : Oper} {ds : List Nat} (h : depB i ds = true) (ho : waysOps[i]? = some o) {L : Nat → Prop} (hd : ∀ j ∈ depsL o, L j) : ∀ d ∈ ds, L d := fun d hdd => by
  unfold depB at h
  rw [ho] at h
  have := List.all_eq_true.1 h d hdd
  exact hd d (by simpa using this)
theorem opG_mk {P : Program} {M : List Nat} {ds : List (Option Tmp)} {o : Oper} {nb : Nat} {T : Nat → PV} {H : Nat → Option HObj} {r : Res} (h1 : o.guard = none) (h2 : isCall o.op = false) {vals : List PV} (hv : (opnds o.op).map (ev T) = vals) (h3 : opEval P M o nb H vals = some r) (h4 : r.ok) : OpG P M ds o nb T H ⟨r.val, r.rd, r.wr⟩ := by
  subst hv
  unfold OpG
  rw [h1]
  exact .inl ⟨h2, r, h3, h4, rfl⟩
theorem at_op {i : Nat} {o : Oper} (hi : i < 21) (ho : waysOps[i]? = some o) : o = waysOps[i]'(by rw [ways_size]; exact hi) := by
  rw [Array.getElem?_eq_getElem (by rw [ways_size]; exact hi)] at ho
  exact (Option.some.inj ho).symm
theorem op_key (N : Nat) (T : Nat → PV) (H : Nat → Option HObj) (nb : Nat) : ∀ j, j < 6 → ∀ o, waysOps[1 + 3 * j]? = some o → o.dst = some (2 + 2 * j) ∧ OpG Try.prog [] (dstsOf waysOps) o nb T H ⟨(wayJ j).1, [], []⟩ := by
  refine six ?_ ?_ ?_ ?_ ?_ ?_
  all_goals
    intro o ho
    have e := at_op (by omega) ho
    subst e
    exact ⟨by kernel_rfl, opG_mk (r := ⟨True, _, [], []⟩) (by kernel_rfl) (by kernel_rfl) rfl (by kernel_rfl) trivial⟩
theorem op_val (N : Nat) (T : Nat → PV) (H : Nat → Option HObj) (nb : Nat) : ∀ j, j < 6 → ∀ o, waysOps[2 + 3 * j]? = some o → o.dst = some (3 + 2 * j) ∧ OpG Try.prog [] (dstsOf waysOps) o nb T H ⟨(wayJ j).2, [], []⟩ := by
  refine six ?_ ?_ ?_ ?_ ?_ ?_
  all_goals
    intro o ho
    have e := at_op (by omega) ho
    subst e
    exact ⟨by kernel_rfl, opG_mk (r := ⟨True, _, [], []⟩) (by kernel_rfl) (by kernel_rfl) rfl (by kernel_rfl) trivial⟩
theorem ins_ok {N : Nat} {T : Nat → PV} {H : Nat → Option HObj} {nb : Nat} {es : List (PV × PV)} {j : Nat} {o : Oper} (h1 : T 1 = .mp N) (hH : H N = some (.map es)) (hk : T (2 + 2 * j) = (wayJ j).1) (hv : T (3 + 2 * j) = (wayJ j).2) (hok : ∀ e ∈ es, keyE Try.prog 53 (wayJ j).1 e.1 = some false)
    (g : o.guard = none) (c : isCall o.op = false) (hops : (opnds o.op).map (ev T) = [T 1, T (2 + 2 * j), T (3 + 2 * j)]) (hev : ∀ N K V, opEval Try.prog [] o nb H [.mp N, K, V] = insE Try.prog 55 N K V (H N))
    (hin : ∀ N es, insE Try.prog 55 N (wayJ j).1 (wayJ j).2 (some (.map es)) = some ⟨∀ e ∈ es, keyE Try.prog 53 (wayJ j).1 e.1 = some false, .undef, [N], [(N, some (.map (es ++ [wayJ j])))]⟩) : OpG Try.prog [] (dstsOf waysOps) o nb T H ⟨.undef, [N], [(N, some (.map (es ++ [wayJ j])))]⟩ :=
  opG_mk (r := ⟨∀ e ∈ es, keyE Try.prog 53 (wayJ j).1 e.1 = some false, .undef, [N], [(N, some (.map (es ++ [wayJ j])))]⟩) g c (hops.trans (by rw [h1, hk, hv])) ((hev _ _ _).trans (by rw [hH]; exact hin _ _)) hok
theorem op_ins (N : Nat) (T : Nat → PV) (H : Nat → Option HObj) (nb : Nat) (es : List (PV × PV)) (h1 : T 1 = .mp N) (hH : H N = some (.map es)) : ∀ j, j < 6 → T (2 + 2 * j) = (wayJ j).1 → T (3 + 2 * j) = (wayJ j).2 → (∀ e ∈ es, keyE Try.prog 53 (wayJ j).1 e.1 = some false) → ∀ o, waysOps[3 + 3 * j]? = some o →
    o.dst = none ∧ depB (3 + 3 * j) [0, 1 + 3 * j, 2 + 3 * j] = true ∧ OpG Try.prog [] (dstsOf waysOps) o nb T H ⟨.undef, [N], [(N, some (.map (es ++ [wayJ j])))]⟩ := by
  refine six ?_ ?_ ?_ ?_ ?_ ?_
  all_goals
    intro hk hv hok o ho
    have e := at_op (by omega) ho
    subst e
    refine ⟨by kernel_rfl, by kernel_rfl, ?_⟩
    first
    | exact ins_ok (j := 0) h1 hH hk hv hok (by kernel_rfl) (by kernel_rfl) (by kernel_rfl) (fun _ _ _ => by kernel_rfl) (fun _ _ => by kernel_rfl)
    | exact ins_ok (j := 1) h1 hH hk hv hok (by kernel_rfl) (by kernel_rfl) (by kernel_rfl) (fun _ _ _ => by kernel_rfl) (fun _ _ => by kernel_rfl)
    | exact ins_ok (j := 2) h1 hH hk hv hok (by kernel_rfl) (by kernel_rfl) (by kernel_rfl) (fun _ _ _ => by kernel_rfl) (fun _ _ => by kernel_rfl)
    | exact ins_ok (j := 3) h1 hH hk hv hok (by kernel_rfl) (by kernel_rfl) (by kernel_rfl) (fun _ _ _ => by kernel_rfl) (fun _ _ => by kernel_rfl)
    | exact ins_ok (j := 4) h1 hH hk hv hok (by kernel_rfl) (by kernel_rfl) (by kernel_rfl) (fun _ _ _ => by kernel_rfl) (fun _ _ => by kernel_rfl)
    | exact ins_ok (j := 5) h1 hH hk hv hok (by kernel_rfl) (by kernel_rfl) (by kernel_rfl) (fun _ _ _ => by kernel_rfl) (fun _ _ => by kernel_rfl)
theorem or_t {p q : Prop} (h : p ∨ q) (hq : ¬ q) : p := h.resolve_right hq
theorem way_nd : (waysP.map (·.1)).Nodup := by
  have : ∀ j, j < 6 → ∀ i, i < 6 → i ≠ j → (wayJ j).1 ≠ (wayJ i).1 := fun j hj i hi hne e => by
    have := (keyE_is (key_ne j hj i hi hne)).2 e
    cases this
  rw [List.nodup_iff_pairwise_ne, List.pairwise_iff_getElem]
  intro i j hi hj hij
  have h1 := this i (by simpa [waysP] using hi) j (by simpa [waysP] using hj) (by omega)
  unfold wayJ at h1
  rw [List.getD_eq_getElem?_getD, List.getD_eq_getElem?_getD, List.getElem?_eq_getElem (by simpa using hi), List.getElem?_eq_getElem (by simpa using hj)] at h1
  simpa using h1
theorem way_mem (e : PV × PV) : e ∈ waysP ↔ ∃ j, j < 6 ∧ e = wayJ j := by
  constructor
  · intro h
    obtain ⟨j, hj⟩ := List.getElem?_of_mem h
    refine ⟨j, (List.getElem?_eq_some_iff.1 hj).1, ?_⟩
    unfold wayJ
    rw [List.getD_eq_getElem?_getD, hj]
    rfl
  · rintro ⟨j, hj, rfl⟩
    unfold wayJ
    rw [List.getD_eq_getElem?_getD, List.getElem?_eq_getElem (by simpa [waysP] using hj)]
    exact List.getElem_mem _
theorem way_put {N : Nat} {H0 : Nat → Option HObj} {L : Nat → Prop} {T : Nat → PV} {H : Nat → Option HObj} (h : WayI N H0 L T H) (i d : Nat) (p : PV) (h1 : d ≠ 1) (hb : ∀ j, j < 6 → (d = 2 + 2 * j → p = (wayJ j).1) ∧ (i = 1 + 3 * j → d = 2 + 2 * j)) (hc : ∀ j, j < 6 → (d = 3 + 2 * j → p = (wayJ j).2) ∧ (i = 2 + 3 * j → d = 3 + 2 * j))
    (h14 : (d = 14 → p = .mp N) ∧ (i = 19 → d = 14)) (hz : (d = 0 → p = .mp N) ∧ (i = 20 → d = 0)) (hi : i ≠ 0) (hins : ∀ j, j < 6 → i ≠ 3 + 3 * j) : WayI N H0 (fun k => L k ∨ k = i) (putT T (some d) p) H := by
  have old : ∀ {k : Nat}, k ≠ i → (L k ∨ k = i) → L k := fun hk h => h.resolve_right hk
  refine ⟨fun hl => ?_, fun j hj hl => ?_, fun j hj hl => ?_, fun hl => ?_, fun hl => ?_, h.f, fun hl => ?_⟩
  · rw [putT, upd_ne _ _ (Ne.symm h1)]
    exact h.a (old (Ne.symm hi) hl)
  · by_cases e : 2 + 2 * j = d
    · rw [putT, e, upd_same]; exact (hb j hj).1 e.symm
    · rw [putT, upd_ne _ _ e]; exact h.b j hj (old (fun e2 => e ((hb j hj).2 e2.symm).symm) hl)
  · by_cases e : 3 + 2 * j = d
    · rw [putT, e, upd_same]; exact (hc j hj).1 e.symm
    · rw [putT, upd_ne _ _ e]; exact h.c j hj (old (fun e2 => e ((hc j hj).2 e2.symm).symm) hl)
  · by_cases e : 14 = d
    · rw [putT, e, upd_same]; exact h14.1 e.symm
    · rw [putT, upd_ne _ _ e]; exact h.d (old (fun e2 => e (h14.2 e2.symm).symm) hl)
  · by_cases e : 0 = d
    · rw [putT, e, upd_same]; exact hz.1 e.symm
    · rw [putT, upd_ne _ _ e]; exact h.e (old (fun e2 => e (hz.2 e2.symm).symm) hl)
  · obtain ⟨es, e1, e2, e3⟩ := h.g (old (Ne.symm hi) hl)
    refine ⟨es, e1, fun e => (e2 e).trans ⟨fun ⟨j, hj, hl, he⟩ => ⟨j, hj, .inl hl, he⟩, fun ⟨j, hj, hl, he⟩ => ⟨j, hj, old (Ne.symm (hins j hj)) hl, he⟩⟩, e3⟩
theorem op_first (T : Nat → PV) (H : Nat → Option HObj) (nb : Nat) (o : Oper) (ho : waysOps[0]? = some o) : o.dst = some 1 ∧ OpG Try.prog [] (dstsOf waysOps) o nb T H ⟨.mp nb, [], [(nb, some (.map []))]⟩ := by
  have e := at_op (by omega) ho
  subst e
  exact ⟨by kernel_rfl, opG_mk (r := ⟨True, .mp nb, [], [(nb, some (.map []))]⟩) (by kernel_rfl) (by kernel_rfl) rfl (by kernel_rfl) trivial⟩
theorem op_move (N : Nat) (T : Nat → PV) (H : Nat → Option HObj) (nb : Nat) (h1 : T 1 = .mp N) (o : Oper) (ho : waysOps[19]? = some o) : o.dst = some 14 ∧ OpG Try.prog [] (dstsOf waysOps) o nb T H ⟨.mp N, [], []⟩ := by
  have e := at_op (by omega) ho
  subst e
  exact ⟨by kernel_rfl, opG_mk (r := ⟨True, .mp N, [], []⟩) (by kernel_rfl) (by kernel_rfl) (vals := [.mp N]) (by rw [← h1]; kernel_rfl) (by kernel_rfl) trivial⟩
theorem op_last (N : Nat) (T : Nat → PV) (H : Nat → Option HObj) (nb : Nat) (h1 : T 14 = .mp N) (o : Oper) (ho : waysOps[20]? = some o) : o.dst = some 0 ∧ OpG Try.prog [] (dstsOf waysOps) o nb T H ⟨.mp N, [], []⟩ := by
  have e := at_op (by omega) ho
  subst e
  exact ⟨by kernel_rfl, opG_mk (r := ⟨True, .mp N, [], []⟩) (by kernel_rfl) (by kernel_rfl) (vals := [.mp N]) (by rw [← h1]; kernel_rfl) (by kernel_rfl) trivial⟩
theorem dep_ins : ∀ j, j < 6 → depB (3 + 3 * j) [0, 1 + 3 * j, 2 + 3 * j] = true := by
  refine six ?_ ?_ ?_ ?_ ?_ ?_ <;> kernel_rfl
theorem dep_move : depB 19 [0, 3, 6, 9, 12, 15, 18] = true := by kernel_rfl
theorem dep_last : depB 20 [0, 19] = true := by kernel_rfl
theorem way_step {N : Nat} {H0 : Nat → Option HObj} (L : Nat → Prop) (i : Nat) (o : Oper) (T : Nat → PV) (H : Nat → Option HObj) (hL : Lst waysOps L) (hn : ¬ L i) (ho : waysOps[i]? = some o) (hd : ∀ j ∈ depsL o, L j) (h : WayI N H0 L T H) :
    ∃ s, OpG Try.prog [] (dstsOf waysOps) o (N + 8 * i) T H s ∧ WayI N H0 (fun k => L k ∨ k = i) (putT T o.dst s.p) (applyW H s.wr) := by
  have hi : i < 21 := by
    have := (Array.getElem?_eq_some_iff.1 ho).1
    rw [ways_size] at this
    exact this
  have cls : i = 0 ∨ (∃ j, j < 6 ∧ i = 1 + 3 * j) ∨ (∃ j, j < 6 ∧ i = 2 + 3 * j) ∨ (∃ j, j < 6 ∧ i = 3 + 3 * j) ∨ i = 19 ∨ i = 20 := by
    by_cases h1 : i = 0
    · exact .inl h1
    by_cases h2 : i = 19
    · exact .inr (.inr (.inr (.inr (.inl h2))))
    by_cases h3 : i = 20
    · exact .inr (.inr (.inr (.inr (.inr h3))))
    rcases (show i % 3 = 1 ∨ i % 3 = 2 ∨ i % 3 = 0 by omega) with h4 | h4 | h4
    · exact .inr (.inl ⟨(i - 1) / 3, by omega, by omega⟩)
    · exact .inr (.inr (.inl ⟨(i - 2) / 3, by omega, by omega⟩))
    · exact .inr (.inr (.inr (.inl ⟨(i - 3) / 3, by omega, by omega⟩)))
  rcases cls with rfl | ⟨j, hj, rfl⟩ | ⟨j, hj, rfl⟩ | ⟨j, hj, rfl⟩ | rfl | rfl
  · obtain ⟨g1, g2⟩ := op_first T H (N + 8 * 0) o ho
    refine ⟨_, g2, ?_⟩
    rw [g1]
    have old : ∀ {k : Nat}, k ≠ 0 → (L k ∨ k = 0) → L k := fun hk h => h.resolve_right hk
    refine ⟨fun _ => rfl, fun k hk hl => ?_, fun k hk hl => ?_, fun hl => ?_, fun hl => ?_, fun x hx => ?_, fun _ => ⟨[], upd_same _ _ _, fun e => ⟨fun he => by simp at he, fun ⟨k, hk, hl, _⟩ => ?_⟩, List.nodup_nil⟩⟩
    · rw [putT, upd_ne _ _ (by omega)]; exact h.b k hk (old (by omega) hl)
    · rw [putT, upd_ne _ _ (by omega)]; exact h.c k hk (old (by omega) hl)
    · rw [putT, upd_ne _ _ (by omega)]; exact h.d (old (by omega) hl)
    · rw [putT, upd_ne _ _ (by omega)]; exact h.e (old (by omega) hl)
    · show upd H (N + 8 * 0) _ x = H0 x
      rw [upd_ne _ _ (by omega)]; exact h.f x hx
    · have hk2 : L (3 + 3 * k) := hl.resolve_right (by omega)
      have hg : waysOps[3 + 3 * k]? = some (waysOps[3 + 3 * k]'(by rw [ways_size]; omega)) := Array.getElem?_eq_getElem _
      exact absurd (dep_of (dep_ins k hk) hg (hL.closed _ _ hk2 hg) 0 (by simp)) hn
  · obtain ⟨g1, g2⟩ := op_key N T H (N + 8 * (1 + 3 * j)) j hj o ho
    refine ⟨_, g2, ?_⟩
    rw [g1]
    exact way_put h _ _ _ (by omega) (fun k hk => ⟨fun e => by rw [show j = k by omega], by omega⟩) (fun k hk => ⟨by omega, by omega⟩) ⟨by omega, by omega⟩ ⟨by omega, by omega⟩ (by omega) (by omega)
  · obtain ⟨g1, g2⟩ := op_val N T H (N + 8 * (2 + 3 * j)) j hj o ho
    refine ⟨_, g2, ?_⟩
    rw [g1]
    exact way_put h _ _ _ (by omega) (fun k hk => ⟨by omega, by omega⟩) (fun k hk => ⟨fun e => by rw [show j = k by omega], by omega⟩) ⟨by omega, by omega⟩ ⟨by omega, by omega⟩ (by omega) (by omega)
  · have hds := dep_of (dep_ins j hj) ho hd
    have l0 := hds 0 (by simp)
    have l1 := hds (1 + 3 * j) (by simp)
    have l2 := hds (2 + 3 * j) (by simp)
    obtain ⟨es, e1, e2, e3⟩ := h.g l0
    have hok : ∀ e ∈ es, keyE Try.prog 53 (wayJ j).1 e.1 = some false := fun e he => by
      obtain ⟨k, hk, hl, rfl⟩ := (e2 e).1 he
      exact key_ne j hj k hk (fun e => hn (e ▸ hl))
    obtain ⟨g1, _, g2⟩ := op_ins N T H (N + 8 * (3 + 3 * j)) es (h.a l0) e1 j hj (h.b j hj l1) (h.c j hj l2) hok o ho
    refine ⟨_, g2, ?_⟩
    rw [g1]
    have old : ∀ {k : Nat}, k ≠ 3 + 3 * j → (L k ∨ k = 3 + 3 * j) → L k := fun hk h => h.resolve_right hk
    refine ⟨fun hl => h.a l0, fun k hk hl => h.b k hk (old (by omega) hl), fun k hk hl => h.c k hk (old (by omega) hl), fun hl => h.d (old (by omega) hl), fun hl => h.e (old (by omega) hl), fun x hx => ?_, fun _ => ⟨es ++ [wayJ j], upd_same _ _ _, fun e => ?_, ?_⟩⟩
    · show upd H N _ x = H0 x
      rw [upd_ne _ _ hx]; exact h.f x hx
    · rw [List.mem_append, List.mem_singleton, e2]
      constructor
      · rintro (⟨k, hk, hl, rfl⟩ | rfl)
        · exact ⟨k, hk, .inl hl, rfl⟩
        · exact ⟨j, hj, .inr rfl, rfl⟩
      · rintro ⟨k, hk, hl | hl, rfl⟩
        · exact .inl ⟨k, hk, hl, rfl⟩
        · exact .inr (by rw [show k = j by omega])
    · rw [List.map_append, List.nodup_append]
      refine ⟨e3, by simp, fun x hx1 y hy1 exy => ?_⟩
      simp only [List.map_cons, List.map_nil, List.mem_singleton] at hy1
      subst hy1
      subst exy
      obtain ⟨e, he, ee⟩ := List.mem_map.1 hx1
      have := (keyE_is (hok e he)).2 ee.symm
      cases this
  · have hds := dep_of dep_move ho hd
    obtain ⟨g1, g2⟩ := op_move N T H (N + 8 * 19) (h.a (hds 0 (by simp))) o ho
    refine ⟨_, g2, ?_⟩
    rw [g1]
    exact way_put h _ _ _ (by omega) (fun k hk => ⟨by omega, by omega⟩) (fun k hk => ⟨by omega, by omega⟩) ⟨fun _ => rfl, fun _ => rfl⟩ ⟨by omega, by omega⟩ (by omega) (by omega)
  · have hds := dep_of dep_last ho hd
    obtain ⟨g1, g2⟩ := op_last N T H (N + 8 * 20) (h.d (hds 19 (by simp))) o ho
    refine ⟨_, g2, ?_⟩
    rw [g1]
    exact way_put h _ _ _ (by omega) (fun k hk => ⟨by omega, by omega⟩) (fun k hk => ⟨by omega, by omega⟩) ⟨by omega, by omega⟩ ⟨fun _ => rfl, fun _ => rfl⟩ (by omega) (by omega)
theorem ways_in : InTo Try.prog 30 [] [] (fun nb => .mp nb) (fun nb => [(nb, some (.map waysP))]) := by
  refine inTo_ofA Try.func30 rfl Try.ntmps30 Try.results30 (by kernel_rfl) (by simp) (by simp) (fun H N nb hH hN => ?_)
  refine awp_seq (wpc_sound (M := []) mixed _ _ _ _ _ (by kernel_rfl) ?_)
  try simp only [↓Wd0, Wr0, Wr1, opnds, ofVal, ofValC, PV.cells, PV.one, PV.fit, partE, setL, pickE, intE, strE, eqC, eqCs, kindOK, aggEqE, binE, unaE, convE, fieldE, faddrE, iaddrE, indexE, loE, sliceE, nilE, fillP, buildE, elemsE, bslE, lenE, appE, stripC, strip1, strip1L, strip, tupV, resV, convT, sliceB, sliceA, sliceO, convB, clearE, appB, lookE, insE, keyOK, reduceCtorEq, ↓reduceIte, Nat.reduceAdd, Nat.reduceMul, Nat.reduceSub, Nat.reduceEqDiff, Nat.reduceLeDiff, Nat.reduceBEq, Int.reduceToNat, Nat.reduceLT, Int.reduceBEq, Int.reduceBNe, Int.reduceLT, Int.reduceLE, Int.reduceGT, Int.reduceGE, UInt8.reduceToNat, Int.reduceNeg, Int.reduceAdd, Int.reduceSub, Wt]
  refine awp_seq (region_inv (M := []) mixed (by kernel_rfl) (WayI (N + 8) H) ?_ (fun L i o T H hL hn ho hd h => way_step L i o T H hL hn ho hd h) (fun T' H' h => ?_))
  · exact ⟨False.elim, fun _ _ => False.elim, fun _ _ => False.elim, False.elim, False.elim, fun _ _ => rfl, False.elim⟩
  · have h : WayI (N + 8) H (fun k => k < 21) T' H' := h
    obtain ⟨es, e1, e2, e3⟩ := h.g (by omega)
    have hp : es.Perm waysP := by
      have nd : ∀ {l : List (PV × PV)}, (l.map (·.1)).Nodup → l.Nodup := fun h => by
        rw [List.nodup_iff_pairwise_ne, List.pairwise_map] at h
        exact h.imp fun hne e => hne (by rw [e])
      rw [List.perm_ext_iff_of_nodup (nd e3) (nd way_nd)]
      intro e
      rw [e2, way_mem]
      exact ⟨fun ⟨j, hj, _, he⟩ => ⟨j, hj, he⟩, fun ⟨j, hj, he⟩ => ⟨j, hj, by omega, he⟩⟩
    refine ⟨upd H' (N + 8) (some (.map waysP)), fun n => ?_, ?_⟩
    · by_cases e : n = N + 8
      · subst e; exact .inr ⟨es, waysP, e1, upd_same _ _ _, hp⟩
      · exact .inl (upd_ne _ _ e).symm
    · refine wpc_sound (M := []) mixed .ret _ _ _ _ (by kernel_rfl) ?_
      try simp only [↓Wd0, Wr0, Wr1, opnds, ofVal, ofValC, PV.cells, PV.one, PV.fit, partE, setL, pickE, intE, strE, eqC, eqCs, kindOK, aggEqE, binE, unaE, convE, fieldE, faddrE, iaddrE, indexE, loE, sliceE, nilE, fillP, buildE, elemsE, bslE, lenE, appE, stripC, strip1, strip1L, strip, tupV, resV, convT, sliceB, sliceA, sliceO, convB, clearE, appB, lookE, insE, keyOK, reduceCtorEq, ↓reduceIte, Nat.reduceAdd, Nat.reduceMul, Nat.reduceSub, Nat.reduceEqDiff, Nat.reduceLeDiff, Nat.reduceBEq, Int.reduceToNat, Nat.reduceLT, Int.reduceBEq, Int.reduceBNe, Int.reduceLT, Int.reduceLE, Int.reduceGT, Int.reduceGE, UInt8.reduceToNat, Int.reduceNeg, Int.reduceAdd, Int.reduceSub, Wt]
      rw [h.e (by omega)]
      have ephi : phi nb N (fun _ => 8) nb = N + 8 := phi_new (j := 0) (by omega)
      refine ⟨_, fun _ => 8, rfl, ?_, ?_, fun m hm hw hnb => ?_, fun x hx o ho => ?_, fun x hx y hy _ _ _ _ _ _ hne => ?_⟩
      · show PV.mp (phi nb N (fun _ => 8) nb) = .mp (N + 8)
        rw [ephi]
      · exact .inr ⟨by omega, by omega⟩
      · rw [upd_ne _ _ (by omega)]
        exact h.f m (by omega)
      · simp only [List.mem_singleton] at hx
        subst hx
        cases ho
        refine ⟨?_, ?_⟩
        · rw [ephi, upd_same]; rfl
        · intro e he
          obtain ⟨j, hj, rfl⟩ := (way_mem e).1 he
          refine six (Q := fun j => ok1 (inN [] nb) (wayJ j).1 ∧ ok1 (inN [] nb) (wayJ j).2) ?_ ?_ ?_ ?_ ?_ ?_ j hj
          all_goals (refine ⟨fun p hp => ?_, fun p hp => ?_⟩ <;> (simp only [List.mem_cons, List.not_mem_nil, or_false] at hp; rcases hp with rfl | rfl <;> trivial))
      · simp only [List.mem_singleton] at hx hy
        subst hx
        subst hy
        exact absurd rfl hne
end Go.Proofs.Ytnakoioakhaekaa
