import Derived.Test.YtgagnohelibaoaaDoorWb
/-! That any operation in memory comes to what it comes to without. -/
set_option linter.unusedSimpArgs false
set_option linter.unusedVariables false
namespace Go.Proofs.YtgagnohelibaoaaDoor
open Go.RowKit

section
variable {P : Program} {nt : Nat} {w0 : World} {S0 : Addr → Prop} {E : List (PV × Value)} {S : Addr → Prop} {μ : Nat → Value} {st : St} {a : Act} {w : World} {r : Res} {o : Oper} {nb : Nat} {M : List Nat}

theorem mv_append {c : Call} (ho : o.op = .call c) (hc : c.callee = .builtin .append) {s x : TypeId} (hts : c.argTypes.toList = [s, x]) (hev : appE P s x nb st.H (c.args.toList.map (ev st.T)) = some r) (hok : r.ok) (h : Sim nt w0 S0 E S μ st a w)
    (hnb : ∀ j, j < 8 → ¬ st.D (nb + j)) : Moves P nt w0 S0 E st a w o nb r := by
  unfold appE at hev
  split at hev
  · rename_i nm off k n m nm2 off2 k2 n2 m2 heq
    split at hev
    · cases hev
    rename_i hsx
    have hsx : s = x := Classical.not_not.1 hsx
    subst hsx
    split at hev
    · rename_i ag sz by_ z e ht
      split at hev
      · rename_i te hte
        exact mv_appB ho hc hts heq ht hte hev hok h
      · cases hev
    · cases hev
  obtain ⟨callee, args, ts⟩ := c
  obtain ⟨args⟩ := args
  obtain ⟨ts⟩ := ts
  simp only at hc hts
  subst hc
  subst hts
  · rename_i t xs t' ys heq
    obtain ⟨x1, x2, rfl⟩ : ∃ x1 x2, args = [x1, x2] := by
      cases args with
      | nil => cases heq
      | cons y1 args =>
        cases args with
        | nil => simp at heq
        | cons y2 args =>
          cases args with
          | nil => exact ⟨y1, y2, rfl⟩
          | cons y3 args => simp at heq
    simp only [List.map_cons, List.map_nil, List.cons.injEq, and_true] at heq
    obtain ⟨e1, e2⟩ := heq
    have rx := rel_ev h.tmps x1
    have ry := rel_ev h.tmps x2
    rw [e1] at rx
    rw [e2] at ry
    split at hev
    · cases hev
    rename_i hsx
    have hsx : s = x := Classical.not_not.1 hsx
    subst hsx
    split at hev
    · rename_i ag sz by_ z e ht
      obtain ⟨i, d, z', h1, h2, h3, hty⟩ := tyOf_inv ht
      have hd := shp_slice (P := P) (d := d) (e := e) (by injection hty with _ _ _ _ h5; exact h5.symm)
      subst hd
      split at hev
      · rename_i te hte
        obtain ⟨i2, d2, z2, a2, b2, c2, e2⟩ := tyOf_inv hte
        have hsz : te.size = i2.size := by rw [e2]
        have hby : te.bytes = i2.bytes := by rw [e2]
        split at hev
        · cases hev
        rename_i hzz
        have hzc : z2.cells.size = i2.size := by
          have e3 : te.zero = ofVal z2 := by rw [e2]
          have h4 : te.zero.cells.length = te.size := by omega
          rw [e3, hsz] at h4
          have : (ofVal z2).cells.length = z2.cells.size := by
            unfold ofVal
            split
            · simp [PV.cells, Value.cells]
            · rename_i hna
              have h5 : (ofValC z2).cells = [ofValC z2] := by unfold ofValC; split <;> rfl
              rw [h5]
              cases z2 <;> first | rfl | exact absurd rfl (hna _)
          omega
        have hszne : i2.size ≠ 0 := by omega
        have fin : ∀ {n : Nat} {vs : List Value} {v' : Value} {w' : World} {S' : Addr → Prop} {μ' : Nat → Value} {H' : Nat → Option HObj}, (Builtin.append_ #[s, s] o.type #[a.eval x1, a.eval x2]).run P w = .ok v' w' →
            Sim nt w0 S0 E S' μ' { T := st.T, H := upd H' nb (some (.tok e i2.size n)), D := fun x => st.D x ∨ x = nb } a w' → Rel S' μ' (fun x => st.D x ∨ x = nb) w' (.sl nb (xs ++ ys)) v' →
            applyW st.H r.wr = upd H' nb (some (.tok e i2.size n)) → r.val = .sl nb (xs ++ ys) → Moves P nt w0 S0 E st a w o nb r := by
          intro n vs v' w' S' μ' H' hrun hs hr hw hv
          have hD : ∀ m, (st.D m ∨ m = nb) → moreD st.D nb m := fun m hm => by
            rcases hm with hm | hm
            · exact .inl hm
            · exact .inr ⟨by omega, by omega⟩
          refine ⟨_, v', w', S', μ', ?_, .inl rfl, ?_, ?_⟩
          · unfold execOp
            simp only [ho]
            simp [resolve, invoke, builtin, hrun]
          · rw [hw]
            exact hs.more (D' := moreD st.D nb) hD
          · rw [hv]
            exact hr.mono (fun _ h => h) (fun _ _ => rfl) hD (fun _ _ => rfl)
        split at hev
        · rename_i ht0
          cases hev
          subst ht0
          obtain ⟨hwx, hwy, h48, h63⟩ := hok
          rw [hsz] at hwx hwy
          have hcr := rel_sl rx
          have hv : a.eval x1 = .slice none 0 0 ∧ xs = [] := by
            cases rx with
            | c hc =>
              generalize a.eval x1 = v at hc
              cases hc with
              | sl _ _ A c k u ht' h0 hn hc hm hk hone hcell hrel =>
                have := h0 rfl
                subst this
                obtain ⟨rfl, rfl⟩ := hn rfl
                exact ⟨rfl, rfl⟩
            | tok _ _ _ h2 _ _ _ => omega
          obtain ⟨hv, hx0⟩ := hv
          rw [hv] at hcr
          obtain ⟨v', w', S', μ', hrun, hs, hr⟩ := app_core (ty := o.type) h (nb_fresh hnb) h2 a2 c2 hzc hszne (World.ownsRow_nil w w0.heap.size e i2.size) (by rw [hx0]; rfl) hwx hwy hcr (rel_sl ry) (fun nm o' hm g hg hg' => by cases hg') (fun b hb => by cases hb) (by
            rw [← hby]
            rw [hx0] at h48
            exact h48) (by rw [hx0] at h63; exact h63)
          rw [← hv] at hrun
          refine fin (vs := []) hrun hs hr ?_ rfl
          simp only [applyW, hsz, hx0, List.length_nil]
        · unfold appT at hev
          split at hev
          · rename_i e' k n htok
            cases hev
            obtain ⟨⟨⟨rfl, hk, hn⟩, hwx, hwy⟩, h48, h63⟩ := hok
            subst hn
            rw [hsz] at hk hwx hwy
            subst hk
            obtain ⟨vs, ht2, hown, hfree⟩ := h.heap t _ htok
            have hdt := h.lt htok
            have hv : a.eval x1 = μ t := by
              cases rx with
              | c hc =>
                exfalso
                generalize a.eval x1 = v at hc
                cases hc with
                | sl _ _ A c k u ht' h0 hn hc hm hk hone hcell hrel =>
                  omega
              | tok _ _ _ _ _ hv _ => exact hv
            have hcr := rel_sl rx
            rw [hv] at hcr
            obtain ⟨v', w', S', μ', hrun, hs, hr⟩ := app_core (ty := o.type) (h.drop t) (nb_fresh hnb) h2 a2 c2 hzc hszne hown rfl hwx hwy hcr (rel_sl ry) (fun nm o' hm g hg hg' => by
              have hne : nm ≠ t := by
                intro e
                subst e
                simp only [upd_same] at hm
                cases hm
              simp only [upd_ne _ _ hne] at hm
              exact h.apart nm t o' _ hm htok hne g hg hg') hfree (by rw [← hby]; exact h48) h63
            rw [← hv] at hrun
            refine fin (vs := vs) hrun hs hr ?_ rfl
            simp only [applyW, hsz]
          · cases hev
      · cases hev
    · cases hev
  · cases hev

/-- A row of bytes of the call's own is marked as one that a string was turned to. -/
theorem mv_mark {s : TypeId} {x : Operand} (ho : o.op = .convert s s x) {nm n : Nat} {xs : List (List PV)} {e e' : TypeId} {k : Nat} (htok : st.H nm = some (.tok e k n)) (hn : 0 < n) (hs : P.underlying s = some (.slice e')) (he : P.underlying e' = some (.int .u8)) (hr : r = ⟨n = xs.length ∧ 0 < n, .sl 1 xs, [nm], [(nm, none)]⟩)
    (h2 : 2 ≤ nm) (hx : Rel S μ st.D w (.sl nm xs) (a.eval x)) (h : Sim nt w0 S0 E S μ st a w) : Moves P nt w0 S0 E st a w o nb r := by
  obtain ⟨vs, _, hown, hfree⟩ := h.heap nm _ htok
  have hdt := h.lt htok
  have hv : a.eval x = μ nm := by
    cases hx with
    | c hc =>
      exfalso
      generalize a.eval x = v at hc
      cases hc with
      | sl _ _ A c k u ht' h0 hn hc hm hk hone hcell hrel => omega
    | tok _ _ _ _ _ hv _ => exact hv
  have hcr := rel_sl hx
  rcases hown.2 with ⟨_, h0⟩ | ⟨g, c, cur, hmu, hB, hg, hnc, hcm, hcs, htake⟩
  · omega
  · have hhp : ∀ b, b ≠ g → (w.freeze ⟨g, cur.size, none⟩ 1).heap[b]? = w.heap[b]? := fun b hb => by
      unfold World.freeze
      rw [if_neg (by decide)]
      simp [Array.getElem?_modify, Ne.symm hb]
    have hhg : (w.freeze ⟨g, cur.size, none⟩ 1).heap[g]? = some (.cells cur e (cur.size, cur.size + 1)) := by
      unfold World.freeze
      rw [if_neg (by decide)]
      simp [Array.getElem?_modify, hg]
    have hsz : (w.freeze ⟨g, cur.size, none⟩ 1).heap.size = w.heap.size := by
      unfold World.freeze
      rw [if_neg (by decide)]
      simp
    have hcell : ∀ ad, (w.freeze ⟨g, cur.size, none⟩ 1).cell? ad = w.cell? ad := fun ad => by
      by_cases hb : ad.block = g
      · unfold World.cell?
        rw [hb, hhg, hg]
      · exact World.cell?_of_block (hhp _ hb)
    have hblk : ∀ m o', upd st.H nm none m = some o' → st.H m = some o' ∧ ∀ g', blk (μ m) = some g' → g' ≠ g := by
      intro m o' hm
      by_cases em : m = nm
      · subst em; rw [upd_same] at hm; cases hm
      · rw [upd_ne _ _ em] at hm
        refine ⟨hm, fun g' hg' e => ?_⟩
        subst e
        exact h.apart m nm o' _ hm htok em _ hg' (by rw [hmu]; rfl)
    subst hr
    refine ⟨_, a.eval x, w.freeze ⟨g, cur.size, none⟩ 1, S, μ, ?_, .inl rfl, ?_, .c (hcr.mono (fun _ h => h) (fun ad _ => hcell ad))⟩
    · unfold execOp
      have hsh : w.shape? g = some (e, cur.size) := by unfold World.shape?; rw [hg]
      simp only [ho, hv, hmu]
      simp [convert, run_underlying hs, run_underlying he, markStringish, hsh]
    · refine (h.on (H' := upd st.H nm none) (D' := st.D) (fun _ h => h) (fun ad _ => hcell ad) (fun _ h => h) (fun _ _ => rfl) ?_ ?_ ?_ ?_ (fun _ _ h => h) (fun b hb => by rw [hsz]; exact h.slt b hb)).more (D' := moreD st.D nb) (fun m hm => .inl hm)
      · intro m o' hm
        obtain ⟨hm', hne⟩ := hblk m o' hm
        exact (h.heap m o' hm').keep (fun _ h => h) (fun ad _ => hcell ad) (fun _ h => h) (fun _ _ => rfl) (h.lt hm') (by rw [hsz]; exact Nat.le_refl _) (fun g' hg' => ⟨hhp g' (hne g' hg'), fun _ _ h => h⟩)
      · intro m m' o1 o2 hm hm' hne
        exact h.apart m m' o1 o2 (hblk m o1 hm).1 (hblk m' o2 hm').1 hne
      · intro m hm
        by_cases em : m = nm
        · subst em; exact upd_same _ _ _
        · rw [upd_ne _ _ em]; exact h.fresh m hm
      · refine ⟨?_, ?_, ?_, by rw [hsz]; exact Nat.le_refl _, fun b hb => hhp b (by omega)⟩ <;> (unfold World.freeze; rw [if_neg (by decide)])
theorem pickE_wr {c x y : PV} (hev : pickE c x y = some r) : r.wr = [] := by
  unfold pickE at hev
  split at hev
  · rename_i b
    split at hev
    · rw [qv_inv hev]
    · cases b
      · rw [cond_false] at hev; rw [qv_inv hev]
      · rw [cond_true] at hev; rw [qv_inv hev]
  · cases hev
theorem op_sound (h : Sim nt w0 S0 E S μ st a w) (hnb : ∀ j, j < 8 → ¬ st.D (nb + j)) (hev : opEval P M o nb st.H ((opnds o.op).map (ev st.T)) = some r) (hok : r.ok) : Moves P nt w0 S0 E st a w o nb r := by
  have hx := rel_ev h.tmps
  unfold opEval at hev
  cases ho : o.op with
  | move x => simp only [ho, opnds, List.map_cons, List.map_nil] at hev; exact (st_move (.inl ho) hev (hx x)).moves h (by rw [qv_inv hev])
  | assign x => simp only [ho, opnds, List.map_cons, List.map_nil] at hev; exact (st_move (.inr ho) hev (hx x)).moves h (by rw [qv_inv hev])
  | pick c x y =>
    simp only [ho, opnds, List.map_cons, List.map_nil] at hev
    exact (st_pick ho hev (hx c) (hx x) (hx y)).moves h (pickE_wr hev)
  | alloc t =>
    simp only [ho] at hev
    split at hev
    · rename_i ty hty
      cases hev
      exact mv_alloc ho hty h hnb rfl
    · cases hev
  | box t x =>
    simp only [ho, opnds, List.map_cons, List.map_nil] at hev
    split at hev
    · rename_i hf
      cases hev
      exact mv_box ho (hx x) hf h hnb rfl
    · cases hev
  | build t ps =>
    simp only [ho, opnds] at hev
    refine (st_build ho hev hx).moves h ?_
    unfold buildE at hev
    split at hev
    · split at hev
      · rw [qv_inv hev]
      · cases hev
    · split at hev
      · split at hev
        · rw [qv_inv hev]
        · cases hev
      · cases hev
    · cases hev
  | buildSlice t n ps =>
    simp only [ho, opnds] at hev
    exact mv_bsl ho hev hx h hnb
  | load t x =>
    simp only [ho, opnds, List.map_cons, List.map_nil] at hev
    obtain ⟨h1, h2⟩ := st_load ho h.heap hev (hx x)
    exact h1.moves h h2
  | store t x y =>
    simp only [ho, opnds, List.map_cons, List.map_nil] at hev
    exact mv_store ho hev (hx x) (hx y) h
  | nilCheck x =>
    simp only [ho, opnds, List.map_cons, List.map_nil] at hev
    refine (st_nil ho hev (hx x)).moves h ?_
    unfold nilE at hev
    split at hev <;> first | rw [qv_inv hev] | cases hev
  | binOp op t x y t' =>
    simp only [ho, opnds, List.map_cons, List.map_nil] at hev
    refine (st_bin ho hev hok (hx x) (hx y) (fun xs ys e1 e2 hagg => st_aggEq ho hagg (by rw [← e1]; exact hx x) (by rw [← e2]; exact hx y))).moves h ?_
    unfold binE at hev
    split at hev
    · split at hev
      · cases op <;> simp only [intE] at hev <;> first | rw [qv_inv hev] | rw [qc_inv hev] | cases hev
      · cases hev
    · cases op <;> simp only [strE] at hev <;> first | rw [qv_inv hev] | rw [qc_inv hev] | cases hev
    · split at hev
      · split at hev <;> first | rw [qv_inv hev] | cases hev
      · cases hev
    · unfold aggEqE at hev
      split at hev
      · split at hev
        · split at hev
          · split at hev <;> first | rw [qv_inv hev] | cases hev
          · cases hev
        · cases hev
      · cases hev
    · split at hev
      · split at hev <;> first | rw [qc_inv hev] | cases hev
      · cases hev
    · cases hev
  | makeInterface t x =>
    simp only [ho, opnds, List.map_cons, List.map_nil] at hev
    refine (st_mki ho hev (hx x)).moves h ?_
    unfold mkiE at hev
    split at hev <;> first | rw [qv_inv hev] | cases hev
  | unOp op t x =>
    simp only [ho, opnds, List.map_cons, List.map_nil] at hev
    refine (st_un ho hev (hx x)).moves h ?_
    unfold unaE at hev
    split at hev <;> first | rw [qv_inv hev] | cases hev
  | convert s d x =>
    simp only [ho, opnds, List.map_cons, List.map_nil] at hev
    have old : ∀ {r' : Res}, convE P s d (ev st.T x) = some r' → r'.ok → Moves P nt w0 S0 E st a w o nb r' := fun {r'} hev hok => by
      rcases st_conv ho hev hok (hx x) with ⟨h1, h2⟩ | ⟨l, e, h1, h2, h3, h4, h5, h6, h7⟩
      · exact h1.moves h h2
      · exact mv_bytes ho h2 h3 h4 h5 (by rw [← h1]; exact hx x) h h6 h7
    have add : ∀ {nm : Nat}, addRd nm (convE P s d (ev st.T x)) = some r → Moves P nt w0 S0 E st a w o nb r := fun {nm} he => by
      cases hc : convE P s d (ev st.T x) with
      | none => rw [hc] at he; cases he
      | some y =>
        rw [hc] at he
        obtain ⟨c, p, rd, wr⟩ := y
        simp only [addRd, Option.some.injEq] at he
        subst he
        have hm := old (r' := ⟨c, p, rd, wr⟩) hc hok
        unfold Moves at hm ⊢
        exact hm
    suffices hevO : convO P s d st.H (ev st.T x) = some r → Moves P nt w0 S0 E st a w o nb r by
      unfold convX at hev
      split at hev
      · rename_i l how hl
        unfold convN at hev
        split at hev
        · rename_i e hts htd
          obtain ⟨i1, d1, z1, a1, b1, c1, e1⟩ := tyOf_inv hts
          obtain ⟨i2, d2, z2, a2, b2, c2, e2⟩ := tyOf_inv htd
          have hd1 := shp_str (P := P) (d := d1) (by injection e1 with _ _ _ _ h5; exact h5.symm)
          subst hd1
          have hd2 := shp_slice (P := P) (d := d2) (e := e) (by injection e2 with _ _ _ _ h5; exact h5.symm)
          subst hd2
          split at hev
          · rename_i hte
            obtain ⟨i3, d3, z3, a3, b3, c3, e3⟩ := tyOf_inv hte
            have hd3 : d3 = .int .u8 := shp_int (P := P) (by injection e3 with _ _ _ _ h5; exact h5.symm)
            subst hd3
            cases hev
            have hle : l.length ≤ 9223372036854775807 := hok
            exact mv_bytesB ho b1 b2 b3 (by unfold maxLen; omega) (by rw [← hl]; exact hx x) h hnb rfl rfl
          · cases hev
        · cases hev
      · exact hevO hev
    intro hev2
    clear hev
    have hev := hev2
    clear hev2
    unfold convO at hev
    split at hev
    · rename_i nm off kk n mm hbs
      exact mv_convB ho hev hok (by rw [← hbs]; exact hx x) h
    · rename_i nm xs hsl
      split at hev
      · exact old (by rw [hsl]; exact hev) hok
      · rename_i h2
        unfold convS at hev
        split at hev
        · rename_i e k n htok
          unfold convT at hev
          split at hev
          · rename_i ag sz by_ z e' hty
            obtain ⟨i2, d2, z2, a2, b2, c2, e2⟩ := tyOf_inv hty
            have hd2 := shp_slice (P := P) (d := d2) (e := e') (by injection e2 with _ _ _ _ h5; exact h5.symm)
            subst hd2
            split at hev
            · rename_i ag3 sz3 by3 z3 hte
              obtain ⟨i3, d3, z3', a3, b3, c3, e3⟩ := tyOf_inv hte
              have hd3 : d3 = .int .u8 := shp_int (P := P) (by injection e3 with _ _ _ _ h5; exact h5.symm)
              subst hd3
              split at hev
              · rename_i hsd
                subst hsd
                have hr := (Option.some.inj hev).symm
                have hok' : n = xs.length ∧ 0 < n := by rw [hr] at hok; exact hok
                exact mv_mark ho htok hok'.2 b2 b3 hr (by omega) (by rw [← hsl]; exact hx x) h
              · cases hev
            · cases hev
          · exact add (by rw [hsl]; exact hev)
        · exact add (by rw [hsl]; exact hev)
    · exact old hev hok
  | makeFunc fn f c =>
    simp only [ho, opnds] at hev
    exact (st_makeFunc ho hev hx).moves h (by rw [qv_inv hev])
  | slice t x lo hi mx =>
    simp only [ho, opnds] at hev
    refine (st_slice ho hev hok hx).moves h ?_
    rw [List.map_cons] at hev
    have sO : ∀ {px : PV} {ps : List PV}, sliceO P t lo.isSome hi.isSome mx.isSome px ps = some r → r.wr = [] := fun {px ps} hev => by
      unfold sliceO at hev
      split at hev
      · cases hev
      · split at hev
        · cases hev
        · split at hev
          · cases hev
          · split at hev
            · rw [qc_inv hev]
            · split at hev
              · rw [qc_inv hev]
              · cases hev
            · cases hev
    cases hpx : ev st.T x with
    | bs nm off k n m =>
      rw [hpx] at hev
      simp only [sliceE, sliceB] at hev
      repeat' (split at hev)
      all_goals first | cases hev; done | rw [qc_inv hev]
    | ptr nm off =>
      rw [hpx] at hev
      simp only [sliceE, sliceA] at hev
      repeat' (split at hev)
      all_goals first | cases hev; done | rw [qc_inv hev]
    | _ => rw [hpx] at hev; simp only [sliceE] at hev; exact sO hev
  | fieldAddr t x f =>
    simp only [ho, opnds, List.map_cons, List.map_nil] at hev
    refine (st_faddr ho hev (hx x)).moves h ?_
    unfold faddrE at hev
    split at hev
    · split at hev
      · split at hev
        · cases hev
        · split at hev <;> first | rw [qv_inv hev] | cases hev
      · cases hev
    · cases hev
  | field t x f =>
    simp only [ho, opnds, List.map_cons, List.map_nil] at hev
    refine (st_field ho hev (hx x)).moves h ?_
    unfold fieldE at hev
    split at hev
    · split at hev
      · split at hev <;> first | rw [qv_inv hev] | cases hev
      · cases hev
    · cases hev
  | indexAddr t x y =>
    simp only [ho, opnds, List.map_cons, List.map_nil] at hev
    refine (st_iaddr ho hev hok (hx x) (hx y)).moves h ?_
    unfold iaddrE at hev
    split at hev
    · split at hev
      · split at hev <;> first | rw [qc_inv hev] | cases hev
      · split at hev <;> first | rw [qc_inv hev] | cases hev
      · split at hev <;> first | rw [qc_inv hev] | cases hev
      · split at hev <;> first | rw [qc_inv hev] | cases hev
      · cases hev
    · cases hev
  | index t x y =>
    simp only [ho, opnds, List.map_cons, List.map_nil] at hev
    refine (st_index ho hev hok (hx x) (hx y)).moves h ?_
    unfold indexE at hev
    split at hev
    · split at hev <;> first | rw [qc_inv hev] | cases hev
    · cases hev
  | extract x i =>
    simp only [ho, opnds, List.map_cons, List.map_nil] at hev
    have hx' := hx x
    split at hev
    · rename_i vs heq
      simp only [List.cons.injEq, and_true] at heq
      rw [heq] at hx'
      split at hev
      · rename_i p hp
        exact (st_extract ho hp hev hx').moves h (by rw [qv_inv hev])
      · cases hev
    · cases hev
  | makeMap t rr =>
    simp only [ho] at hev
    cases rr with
    | none => cases hev; exact mv_makeMap ho h hnb rfl
    | some _ => cases hev
  | lookup t x y ok =>
    simp only [ho, opnds, List.map_cons, List.map_nil] at hev
    have h1 := hx x
    split at hev
    · rename_i nm k heq
      simp only [List.cons.injEq, and_true] at heq
      rw [heq.1] at h1
      exact mv_lookup ho hev hok h1 (by rw [← heq.2]; exact hx y) h
    · cases hev
  | insert t x y u =>
    simp only [ho, opnds, List.map_cons, List.map_nil] at hev
    have h1 := hx x
    split at hev
    · rename_i nm k v heq
      simp only [List.cons.injEq, and_true] at heq
      rw [heq.1] at h1
      exact mv_insert (.inl ho) hev hok h1 (by rw [← heq.2.1]; exact hx y) (by rw [← heq.2.2]; exact hx u) h
    · cases hev
  | mapUpdate t x y u =>
    simp only [ho, opnds, List.map_cons, List.map_nil] at hev
    have h1 := hx x
    split at hev
    · rename_i nm k v heq
      simp only [List.cons.injEq, and_true] at heq
      rw [heq.1] at h1
      exact mv_insert (.inr ho) hev hok h1 (by rw [← heq.2.1]; exact hx y) (by rw [← heq.2.2]; exact hx u) h
    · cases hev
  | range t x =>
    simp only [ho, opnds, List.map_cons, List.map_nil] at hev
    have h1 := hx x
    split at hev
    · rename_i l heq
      simp only [List.cons.injEq, and_true] at heq
      rw [heq] at h1
      exact mv_range ho hev h1 h hnb
    · cases hev
  | next x b =>
    simp only [ho, opnds, List.map_cons, List.map_nil] at hev
    have h1 := hx x
    split at hev
    · rename_i nm heq
      simp only [List.cons.injEq, and_true] at heq
      rw [heq] at h1
      split at hev
      · rename_i hb
        subst hb
        exact mv_next ho hev h1 h
      · cases hev
    · cases hev
  | call c =>
    simp only [ho, opnds] at hev
    split at hev
    · rename_i hc
      simp only [hc] at hev
      split at hev
      · rename_i t hts
        split at hev
        · rename_i nm off k n m hvals
          exact mv_clear ho hc hts hvals hev hok h
        · cases hev
      · cases hev
    · rename_i hc
      simp only [hc] at hev
      refine (st_len (p := ev st.T) ho hc hev hx).moves h ?_
      unfold lenE at hev
      split at hev
      · split at hev <;> first | rw [qv_inv hev] | cases hev
      · split at hev <;> first | rw [qv_inv hev] | cases hev
      · split at hev <;> first | rw [qv_inv hev] | cases hev
      · cases hev
    · rename_i hc
      simp only [hc] at hev
      split at hev
      · rename_i s x hts
        exact mv_append ho hc hts hev hok h hnb
      · cases hev
    · cases hev
  | _ => simp only [ho] at hev; cases hev
end
end Go.Proofs.YtgagnohelibaoaaDoor
