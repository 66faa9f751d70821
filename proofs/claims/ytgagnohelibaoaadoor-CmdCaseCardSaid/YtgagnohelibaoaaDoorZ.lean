import Derived.Test.YtgagnohelibaoaaDoorY
/-! append. -/
set_option linter.unusedSimpArgs false
set_option linter.unusedVariables false
namespace Go.Proofs.YtgagnohelibaoaaDoor
open Go.RowKit

section
variable {P : Program} {nt : Nat} {w0 : World} {S0 : Addr → Prop} {E : List (PV × Value)} {S : Addr → Prop} {μ : Nat → Value} {st : St} {a : Act} {w w' : World} {r : Res} {o : Oper} {nb : Nat}

theorem own_blk {B : Nat} {e : TypeId} {k n : Nat} {v : Value} {vs : List Value} (h : w.ownsRow B e k v n vs) : (v = .slice none 0 0 ∧ n = 0 ∧ vs = [] ∧ blk v = none) ∨
    ∃ g cap cur, v = .slice (some ⟨g, 0, none⟩) n cap ∧ blk v = some g ∧ B ≤ g ∧ w.heap[g]? = some (.cells cur e (0, 0)) ∧ n ≤ cap ∧ cap ≤ maxLen ∧ cur.size = cap * k ∧ cur.toList.take (n * k) = vs := by
  rcases h.2 with ⟨rfl, rfl⟩ | ⟨g, cap, cur, rfl, hB, hg, h1, h2, h3, h4⟩
  · refine .inl ⟨rfl, rfl, ?_, rfl⟩
    have := h.1
    exact List.eq_nil_of_length_eq_zero (by simpa using this)
  · exact .inr ⟨g, cap, cur, rfl, rfl, hB, hg, h1, h2, h3, h4⟩

/-- What stands behind an append. -/
theorem app_end (h : Sim nt w0 S0 E S μ st a w) (hnb : ¬ st.D nb) {e : TypeId} {k n m : Nat} {v' : Value} {vs news : List Value} {xs ys : List (List PV)} (hx : xs.length = n) (hy : ys.length = m) (hkx : ∀ x ∈ xs, x.length = k) (hky : ∀ y ∈ ys, y.length = k)
    (hvs : vs.length = n * k) (hone : ∀ u ∈ vs ++ news, u.oneCell' = true) (cx : ∀ (i j : Nat) x p, xs[i]? = some x → x[j]? = some p → ∃ u, vs[i * k + j]? = some u ∧ CRel S w p u) (cy : ∀ (i j : Nat) x p, ys[i]? = some x → x[j]? = some p → ∃ u, news[i * k + j]? = some u ∧ CRel S w p u)
    (hown : w'.ownsRow w0.heap.size e k v' (n + m) (vs ++ news)) (hw : ∀ a, S a → w'.cell? a = w.cell? a) (hoth : ∀ nm o', st.H nm = some o' → ∀ g, blk (μ nm) = some g → w'.heap[g]? = w.heap[g]? ∧ blk v' ≠ some g)
    (hb : Below w0.heap.size w w') (hfree : ∀ a : Addr, blk v' = some a.block → (n + m) * k ≤ a.off → ¬ S a) :
    ∃ S' μ', Sim nt w0 S0 E S' μ' { T := st.T, H := upd st.H nb (some (.tok e k (n + m))), D := fun x => st.D x ∨ x = nb } a w' ∧ Rel S' μ' (fun x => st.D x ∨ x = nb) w' (.sl nb (xs ++ ys)) v' := by
  obtain ⟨S', hS'⟩ : ∃ S' : Addr → Prop, S' = fun a => S a ∨ (blk v' = some a.block ∧ a.off < (n + m) * k ∧ a.spot = none) := ⟨_, rfl⟩
  have hSS : ∀ a, S a → S' a := fun a ha => by rw [hS']; exact .inl ha
  have hblk : ∀ g, blk v' = some g → w0.heap.size ≤ g ∧ g < w'.heap.size := by
    intro g hg
    rcases own_blk hown with ⟨_, _, _, hn⟩ | ⟨g', cap, cur, _, hb', hB, hh, _⟩
    · rw [hn] at hg; cases hg
    · rw [hb'] at hg
      cases hg
      exact ⟨hB, (Array.getElem?_eq_some_iff.1 hh).1⟩
  have s1 : Sim nt w0 S0 E S' μ { T := st.T, H := st.H, D := st.D } a w' := by
    refine h.on hSS hw (fun _ h => h) (fun _ _ => rfl) ?_ h.apart h.fresh hb ?_ ?_
    · intro nm o' hn
      refine (h.heap nm o' hn).keep hSS hw (fun _ h => h) (fun _ _ => rfl) (h.lt hn) hb.size (fun g hg => ?_)
      obtain ⟨h1, h2⟩ := hoth nm o' hn g hg
      refine ⟨h1, fun b hbg hs => ?_⟩
      rw [hS'] at hs
      rcases hs with hs | ⟨hs, _⟩
      · exact hs
      · rw [hbg] at hs; exact absurd hs h2
    · intro b hb' hs
      rw [hS'] at hs
      rcases hs with hs | ⟨hs, _⟩
      · exact hs
      · have := (hblk _ hs).1; omega
    · intro b hs
      rw [hS'] at hs
      rcases hs with hs | ⟨hs, _, h3⟩
      · exact ⟨Nat.lt_of_lt_of_le (h.slt b hs).1 hb.size, (h.slt b hs).2⟩
      · exact ⟨(hblk _ hs).2, h3⟩
  have s2 := s1.name nb hnb v' (.tok e k (n + m)) (by
    refine ⟨vs ++ news, h.two nb hnb, by rw [upd_same]; exact hown, fun b hb' hn hs => ?_⟩
    rw [upd_same] at hb'
    rw [hS'] at hs
    rcases hs with hs | ⟨_, hs, _⟩
    · exact hfree b hb' hn hs
    · omega) (fun m' o' hm' g hg => (hoth m' o' hm' g hg).2)
  have hrel : CRel S' w' (.sl 1 (xs ++ ys)) v' := by
    have hl : (xs ++ ys).length = n + m := by simp [hx, hy]
    have hkk : ∀ x ∈ xs ++ ys, x.length = k := fun x hx' => by
      rcases List.mem_append.1 hx' with h | h
      · exact hkx x h
      · exact hky x h
    rcases own_blk hown with ⟨rfl, hn, hv0, _⟩ | ⟨g, cap, cur, rfl, hb', hB, hh, hnc, hcm, hcs, htk⟩
    · have : xs ++ ys = [] := List.eq_nil_of_length_eq_zero (by omega)
      rw [this]
      exact .sl 1 [] none 0 0 (fun _ _ => .nilFunc) (by omega) (fun h => by omega) (fun _ => ⟨rfl, rfl⟩) (Nat.le_refl _) (Nat.zero_le _) (fun x h => by cases h) (fun _ _ => rfl) (fun i j x p h => by simp at h) (fun i j x p h => by simp at h)
    · rw [← hl]
      have hget : ∀ (i j : Nat) x p, (xs ++ ys)[i]? = some x → x[j]? = some p → ∃ u, (vs ++ news)[i * k + j]? = some u ∧ CRel S w p u := by
        intro i j x p hi hp
        have hj : j < k := by
          have := (List.getElem?_eq_some_iff.1 hp).1
          rw [hkk x (List.mem_of_getElem? hi)] at this
          exact this
        rw [List.getElem?_append] at hi
        split at hi
        · rename_i hlt
          obtain ⟨u, hu, hr⟩ := cx i j x p hi hp
          refine ⟨u, ?_, hr⟩
          rw [List.getElem?_append_left (List.getElem?_eq_some_iff.1 hu).1]
          exact hu
        · rename_i hge
          obtain ⟨u, hu, hr⟩ := cy _ j x p hi hp
          refine ⟨u, ?_, hr⟩
          have hin : n ≤ i := by omega
          have hmul : n * k ≤ i * k := Nat.mul_le_mul_right _ hin
          rw [List.getElem?_append_right (by omega), hvs, show i * k + j - n * k = (i - xs.length) * k + j by rw [hx, Nat.sub_mul]; omega]
          exact hu
      refine .sl 1 (xs ++ ys) _ cap k (fun i j => (vs ++ news).getD (i * k + j) .nilFunc) (by omega) (fun h => by omega) (fun h => by cases h) (by omega) hcm hkk ?_ ?_ ?_
      · intro i j
        rw [List.getD_eq_getElem?_getD]
        cases hc : (vs ++ news)[i * k + j]? with
        | none => rfl
        | some u => exact hone u (List.mem_of_getElem? hc)
      · intro i j x p hi hp
        obtain ⟨u, hu, _⟩ := hget i j x p hi hp
        have hcell := hown.cells (g := g) rfl _ _ hu
        have hlt : i * k + j < (n + m) * k := by
          have := (List.getElem?_eq_some_iff.1 hu).1
          rw [hown.1] at this
          exact this
        refine ⟨_, rfl, ?_, ?_⟩
        · rw [hS', Addr.add_lit]
          exact .inr ⟨hb', by simpa using hlt, rfl⟩
        · rw [hcell, List.getD_eq_getElem?_getD, hu]
          rfl
      · intro i j x p hi hp
        obtain ⟨u, hu, hr⟩ := hget i j x p hi hp
        rw [List.getD_eq_getElem?_getD, hu]
        exact hr.mono hSS hw
  exact ⟨S', _, s2, .tok nb _ v' (h.two nb hnb) (.inr rfl) (upd_same _ _ _).symm hrel⟩

/-- append onto what the call owns. -/
theorem app_core (h : Sim nt w0 S0 E S μ st a w) (hnb : ¬ st.D nb) {t ty e : TypeId} {i : TypeInfo} {z : Value} (ht : P.underlying t = some (.slice e)) (hi : P.info? e = some i) (hz : i.zero = some z) (hzs : z.cells.size = i.size) (hsz : i.size ≠ 0)
    {v v2 : Value} {n : Nat} {vs : List Value} {xs ys : List (List PV)} (hown : w.ownsRow w0.heap.size e i.size v n vs) (hx : xs.length = n) (hkx : ∀ x ∈ xs, x.length = i.size) (hky : ∀ y ∈ ys, y.length = i.size)
    (rx : CRel S w (.sl 1 xs) v) (ry : CRel S w (.sl 1 ys) v2) (hap : ∀ nm o', st.H nm = some o' → ∀ g, blk (μ nm) = some g → blk v ≠ some g) (hfree : ∀ a : Addr, blk v = some a.block → n * i.size ≤ a.off → ¬ S a)
    (h48 : (n + ys.length) * i.bytes ≤ 140737488355328) (h63 : n + ys.length ≤ 9223372036854775807) :
    ∃ v' w' S' μ', (Builtin.append_ #[t, t] ty #[v, v2]).run P w = .ok v' w' ∧ Sim nt w0 S0 E S' μ' { T := st.T, H := upd st.H nb (some (.tok e i.size (n + ys.length))), D := fun x => st.D x ∨ x = nb } a w' ∧ Rel S' μ' (fun x => st.D x ∨ x = nb) w' (.sl nb (xs ++ ys)) v' := by
  obtain ⟨A2, c2, rfl, _, _⟩ := crel_sl ry
  obtain ⟨A1, c1, hv1, _, _⟩ := crel_sl rx
  rw [hv1] at rx
  obtain ⟨ws, p1, p2, p3, p4, p5, p6⟩ := sl_row rx hkx
  obtain ⟨news, q1, q2, q3, q4, q5, q6⟩ := sl_row ry hky
  have hvw : ws = vs := by
    rcases own_blk hown with ⟨hv, hn, hv0, _⟩ | ⟨g, cap, cur, hv, hb', hB, hh, hnc, hcm, hcs, htk⟩
    · rw [hv0]
      rw [hx, hn, Nat.zero_mul] at p3
      exact List.eq_nil_of_length_eq_zero p3
    · apply List.ext_getElem?
      intro j
      cases hj : ws[j]? with
      | none =>
        have := List.getElem?_eq_none_iff.1 hj
        rw [p3, hx] at this
        exact (List.getElem?_eq_none (by rw [hown.1]; exact this)).symm
      | some u =>
        obtain ⟨ad, e1, _, e3⟩ := p4 j u hj
        rw [hv] at hv1
        injection hv1 with hA _ _
        rw [e1] at hA
        injection hA with hA
        subst hA
        have hlt : j < vs.length := by
          have := (List.getElem?_eq_some_iff.1 hj).1
          rw [p3, hx] at this
          rw [hown.1]
          exact this
        have := hown.cells (g := g) (by rw [hv]; rfl) j _ (List.getElem?_eq_getElem hlt)
        rw [e3] at this
        rw [List.getElem?_eq_getElem hlt]
        exact this
  subst hvw
  have hmax : n + ys.length ≤ maxLen := by unfold maxLen; omega
  have hone : ∀ u ∈ ws ++ news, u.oneCell' = true := fun u hu => by
    rcases List.mem_append.1 hu with h | h
    · exact p5 u h
    · exact q5 u h
  cases A2 with
  | none =>
    obtain ⟨hm, rfl⟩ := q2 rfl
    have hy0 : ys = [] := List.eq_nil_of_length_eq_zero hm
    subst hy0
    have hn0 : news = [] := List.eq_nil_of_length_eq_zero (by simpa using q3)
    subst hn0
    have hrun := run_append_owned_none (P := P) (w := w) w0.heap.size t ty e i i.size ht hi v n ws hown
    obtain ⟨S', μ', s, rr⟩ := app_end (w' := w) h hnb (e := e) (n := n) (m := 0) (v' := v) hx rfl hkx hky (by rw [p3, hx]) hone p6 q6 (by simpa using hown) (fun _ _ => rfl) (fun nm o' hm g hg => ⟨rfl, hap nm o' hm g hg⟩) (Below.refl _ _) (by simpa using hfree)
    exact ⟨v, w, S', μ', hrun, s, rr⟩
  | some ad =>
    have q4' : ∀ j u, news[j]? = some u → w.cell? (ad.add j) = some u := fun j u hj => by
      obtain ⟨ad', e1, _, e3⟩ := q4 j u hj
      cases e1
      exact e3
    have hB0 := h.below.size
    rcases own_blk hown with ⟨hv, hn, hv0, hbk⟩ | ⟨g, cap, cur, hv, hb', hB, hh, hnc, hcm, hcs, htk⟩
    · subst hn
      obtain ⟨v', w', hrun, o1, o2, _⟩ := run_append_own (P := P) w w.heap.size t ty e i z i.size i.bytes ht hi hz rfl rfl hzs (by omega) v 0 ws (by rw [hv, hv0]; exact World.ownsRow_nil w _ _ _) ad ys.length c2 news q3 q4' q5 (by omega) h48 (Nat.le_refl _)
      have hno : v.ownBlock = none := by rw [hv]; rfl
      rw [hno] at o2
      have hb : Below w.heap.size w w' := ⟨o2.os, o2.tape, o2.output, o2.size, fun k hk => o2.block k hk (by simp)⟩
      have hge : ∀ g, blk v' = some g → w.heap.size ≤ g := by
        intro g hg
        rcases own_blk o1 with ⟨_, _, _, hn⟩ | ⟨g', cap, cur, _, hb', hB, _⟩
        · rw [hn] at hg; cases hg
        · rw [hb'] at hg; cases hg; exact hB
      obtain ⟨S', μ', s, rr⟩ := app_end (w' := w') h hnb (e := e) (n := 0) (m := ys.length) (v' := v') hx rfl hkx hky (by rw [p3, hx]) hone p6 q6
        ⟨o1.1, by
          rcases o1.2 with hl | ⟨g, cap, cur, e1, e2, e3⟩
          · exact .inl hl
          · exact .inr ⟨g, cap, cur, e1, by omega, e3⟩⟩ (fun b hb' => hb.cell (h.slt b hb').1) (fun nm o' hm g hg => by
          have := (hrel_blk (h.heap nm o' hm) g hg).2
          exact ⟨hb.block g this, fun e => by have := hge g e; omega⟩) (hb.mono hB0) (fun b hb' _ hs => by
          have := hge _ hb'
          have := (h.slt b hs).1
          omega)
      exact ⟨v', w', S', μ', hrun, s, rr⟩
    · by_cases hroom : n + ys.length ≤ cap
      · have hfit : n * i.size + news.length ≤ cur.size := by rw [q3, hcs, ← Nat.add_mul]; exact Nat.mul_le_mul_right _ hroom
        have hrun := run_append_room (P := P) w t ty e i ht hi g n cap cur hh ad ys.length c2 news q3 q4' q5 hroom hfit
        rw [htk] at hrun
        have hheap := setRow_heap w g cur (ws ++ news ++ cur.toList.drop (n * i.size + news.length)).toArray e _ hh
        have hoth := fun k (hk : g ≠ k) => setRow_other w g k (ws ++ news ++ cur.toList.drop (n * i.size + news.length)).toArray hk.symm
        have hlen : (ws ++ news).length = (n + ys.length) * i.size := by rw [List.length_append, p3, hx, q3, Nat.add_mul]
        have hown' : (w.setRow g (ws ++ news ++ cur.toList.drop (n * i.size + news.length)).toArray).ownsRow w0.heap.size e i.size (.slice (some ⟨g, 0, none⟩) (n + ys.length) cap) (n + ys.length) (ws ++ news) := by
          refine ⟨hlen, .inr ⟨g, cap, _, rfl, hB, hheap, hroom, hcm, ?_, ?_⟩⟩
          · simp only [List.size_toArray, List.length_append, List.length_drop, Array.length_toList]
            rw [p3, hx]
            omega
          · rw [← hlen]
            exact List.take_left
        obtain ⟨S', μ', s, rr⟩ := app_end (w' := w.setRow g (ws ++ news ++ cur.toList.drop (n * i.size + news.length)).toArray) h hnb (e := e) (n := n) (m := ys.length) hx rfl hkx hky (by rw [p3, hx]) hone p6 q6 hown'
          (fun b hs => by
            by_cases hbg : b.block = g
            · have hoff : b.off < n * i.size := by
                rcases Nat.lt_or_ge b.off (n * i.size) with h' | h'
                · exact h'
                · exact absurd hs (hfree b (by rw [hb', hbg]) h')
              have hsp := (h.slt b hs).2
              have eb : b = (⟨g, 0, none⟩ : Addr).add b.off := by
                rw [Addr.add_lit]
                cases b
                simp_all
              have hlt : b.off < ws.length := by rw [p3, hx]; exact hoff
              have c1 := hown.cells (g := g) (by rw [hv]; rfl) b.off _ (List.getElem?_eq_getElem hlt)
              have c2 := hown'.cells (g := g) rfl b.off ws[b.off] (by rw [List.getElem?_append_left hlt]; exact List.getElem?_eq_getElem hlt)
              rw [← eb] at c1 c2
              rw [c1, c2]
            · exact World.cell?_of_block (hoth b.block (fun e => hbg e.symm)))
          (fun nm o' hm g' hg' => by
            have hne : g ≠ g' := fun e => hap nm o' hm g' hg' (by rw [hb', e])
            exact ⟨hoth g' hne, fun e => hne (by simpa [blk] using e)⟩)
          ⟨rfl, rfl, rfl, by simp, fun k hk => hoth k (by omega)⟩ (fun b hb2 hn => hfree b (by rw [hb']; exact hb2) (by
            have : n * i.size ≤ (n + ys.length) * i.size := Nat.mul_le_mul_right _ (by omega)
            omega))
        rw [hv]
        exact ⟨_, _, S', μ', hrun, s, rr⟩
      · have hrun := run_append_grow (P := P) w t ty e i z ht hi hz ⟨g, 0, none⟩ n cap ws (by rw [p3, hx]) (hown.cells (g := g) (by rw [hv]; rfl)) ad ys.length c2 news q3 q4' (by omega) (by omega) (growslice_fits (by omega) h48)
        have hge := grownCap_ge w (n + ys.length) cap e
        have hcm' : grownCap w (n + ys.length) cap e ≤ maxLen := grownCap_le_maxLen w (n + ys.length) cap e hmax
        have hlen : (ws ++ news).length = (n + ys.length) * i.size := by rw [List.length_append, p3, hx, q3, Nat.add_mul]
        obtain ⟨C, hC⟩ : ∃ C, C = (ws.toArray ++ news.toArray ++ Builtin.zeroCells z.cells (grownCap w (n + ys.length) cap e - (n + ys.length))) := ⟨_, rfl⟩
        rw [← hC] at hrun
        have hb : Below w.heap.size w (w.drew.alloc (.cells C e)) := ((Below.refl w.heap.size w).drew).alloc (Nat.le_refl _) _
        have hheap : (w.drew.alloc (.cells C e)).heap[w.heap.size]? = some (.cells C e (0, 0)) := by
          show (w.drew.heap.push _)[w.heap.size]? = _
          exact Array.getElem?_push_size
        have hown' : (w.drew.alloc (.cells C e)).ownsRow w0.heap.size e i.size (.slice (some ⟨w.heap.size, 0, none⟩) (n + ys.length) (grownCap w (n + ys.length) cap e)) (n + ys.length) (ws ++ news) := by
          refine ⟨hlen, .inr ⟨w.heap.size, _, _, rfl, hB0, hheap, hge, hcm', ?_, ?_⟩⟩
          · rw [hC]
            simp only [Array.size_append, List.size_toArray, size_zeroCells, hzs, p3, q3, hx, ← Nat.add_mul]
            congr 1
            omega
          · rw [hC]
            simp only [Array.toList_append, List.append_assoc]
            rw [← List.append_assoc, ← hlen]
            exact List.take_left
        obtain ⟨S', μ', s, rr⟩ := app_end (w' := w.drew.alloc (.cells C e)) h hnb (e := e) (n := n) (m := ys.length) hx rfl hkx hky (by rw [p3, hx]) hone p6 q6 hown' (fun b hb' => hb.cell (h.slt b hb').1)
          (fun nm o' hm g hg => by
            have := (hrel_blk (h.heap nm o' hm) g hg).2
            refine ⟨hb.block g this, fun e => ?_⟩
            have e5 : w.heap.size = g := by simpa [blk] using e
            omega) (hb.mono hB0) (fun b hb' _ hs => by
            have e5 : w.heap.size = b.block := by simpa [blk] using hb'
            have := (h.slt b hs).1
            omega)
        rw [hv]
        exact ⟨_, _, S', μ', hrun, s, rr⟩
end
end Go.Proofs.YtgagnohelibaoaaDoor
