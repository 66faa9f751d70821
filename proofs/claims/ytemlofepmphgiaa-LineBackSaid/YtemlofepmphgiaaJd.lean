import Derived.Test.YtemlofepmphgiaaJc
/-! take, but where a line ends. -/
set_option linter.unusedSimpArgs false
set_option linter.unusedVariables false
set_option maxHeartbeats 4000000
set_option maxRecDepth 100000
namespace Go.Proofs.Ytemlofepmphgiaa
open Go.RowKit


theorem noend {s : Rd} {alone : Bool} {c : UInt8} (he : endC s alone c = false) (h : (c == 10) = true) : s.cr = false ∧ alone = false := by
  unfold endC at he
  rw [h, Bool.true_and, Bool.or_eq_false_iff] at he
  exact he
theorem take_old (s : Rd) (g z y : Nat) (most : Int) (alone : Bool) (c : UInt8) (hn : Nm s g z y) (he : endC s alone c = false) (hk : s.skip = true ∨ (s.cr = false ∧ (c == 13) = true)) : InTo Try.prog 18 [.ptr g 0, .int .u8 c.toNat] (hsL s g z y most alone) (fun _ => .tup []) (fun nb => [(g, some (.box (Rd.cs ⟨s.b, (c == 13), s.skip, s.out⟩ z y most alone)))]) := by
  refine inTo_of mixed Try.func18 rfl Try.ntmps18 Try.results18 (by kernel_rfl) (by kernel_rfl) (by simp) (fun nb x hx => ?_) [] (fun H0 N0 nb hH0 hN0 => ?_)
  · simp only [List.mem_singleton] at hx
    subst hx
    exact .inl (hs_g ..)
  have hbg := beg_of hH0
  have hbox := hbg.box
  have hcz := cell_z hbg hn
  have hcy := cell_y hbg hn
  have hgb := hbg.gb
  have hgN := hbg.gN
  have hz := hbg.hz
  have hy := hbg.hy
  have f1 : 2 ≤ z → (g = z) = False := fun h => eq_false (hn.gz h)
  have f2 : 2 ≤ z → (z = g) = False := fun h => eq_false (fun e => hn.gz h e.symm)
  simp only [Rd.cs] at hbox hcz hcy
  obtain ⟨b, cr, skip, out⟩ := s
  cases cr with
  | false =>
    have go : ∀ b10, (c == 10) = b10 → (b10 = true → alone = false) → True := fun _ _ _ => trivial
    cases h10 : (c == 10) with
    | true =>
      obtain ⟨_, rfl⟩ := noend he h10
      have h13 : (c == 13) = false := by rw [beq_iff_eq.1 h10]; rfl
      have hs : skip = true := by
        rcases hk with hk | ⟨_, hk⟩
        · exact hk
        · rw [h13] at hk; cases hk
      subst hs
      try simp (disch := omega) only [hbox, c10, c13, h10, h13, ne_far, ne_far', ne_at, ne_at', far_far, far_at, at_far, lt_far, ↓Wd0, Wr0, Wr1, opnds, ofVal, ofValC, PV.cells, PV.one, PV.fit, partE, setL, pickE, intE, strE, eqC, eqCs, kindOK, aggEqE, binE, unaE, convE, fieldE, faddrE, iaddrE, indexE, loE, sliceE, nilE, fillP, buildE, elemsE, bslE, lenE, appE, stripC, strip1, strip1L, strip, tupV, resV, convT, convN, sliceB, sliceA, sliceO, convB, clearE, appB, lookE, insE, keyOK, rangeE, reduceCtorEq, ↓reduceIte, Nat.reduceAdd, Nat.reduceMul, Nat.reduceSub, Nat.reduceEqDiff, Nat.reduceLeDiff, Nat.reduceBEq, Int.reduceToNat, Nat.reduceLT, Int.reduceBEq, Int.reduceBNe, Int.reduceLT, Int.reduceLE, Int.reduceGT, Int.reduceGE, UInt8.reduceToNat, Int.reduceNeg, Int.reduceAdd, Int.reduceSub, Wt]
      refine inD (put_skip ⟨b, false, true, out⟩ g z y most _ c (hn.to rfl rfl) rfl) (Hv.hs (s := ⟨b, false, true, out⟩) (y := y) (z := z) (most := most) (hbg.toHv.set (s' := ⟨b, false, true, out⟩) hn rfl rfl rfl)) ?_
      try simp (disch := omega) only [hbox, c10, c13, h10, h13, ne_far, ne_far', ne_at, ne_at', far_far, far_at, at_far, lt_far, ↓Wd0, Wr0, Wr1, opnds, ofVal, ofValC, PV.cells, PV.one, PV.fit, partE, setL, pickE, intE, strE, eqC, eqCs, kindOK, aggEqE, binE, unaE, convE, fieldE, faddrE, iaddrE, indexE, loE, sliceE, nilE, fillP, buildE, elemsE, bslE, lenE, appE, stripC, strip1, strip1L, strip, tupV, resV, convT, convN, sliceB, sliceA, sliceO, convB, clearE, appB, lookE, insE, keyOK, rangeE, reduceCtorEq, ↓reduceIte, Nat.reduceAdd, Nat.reduceMul, Nat.reduceSub, Nat.reduceEqDiff, Nat.reduceLeDiff, Nat.reduceBEq, Int.reduceToNat, Nat.reduceLT, Int.reduceBEq, Int.reduceBNe, Int.reduceLT, Int.reduceLE, Int.reduceGT, Int.reduceGE, UInt8.reduceToNat, Int.reduceNeg, Int.reduceAdd, Int.reduceSub, Wt]
      refine endI_c0 (cs := (Rd.cs ⟨b, false, true, out⟩ z y most _)) (cells_cons hcz (cells_cons cell_b (cells_cons cell_b (cells_cons cell_i (cells_cons cell_b (cells_cons hcy cells_nil)))))) hgb ?_ ?_
      · repeat first | rw [upd_same] | rw [upd_ne _ _ (by omega)]
        rfl
      · exact fun x hx hxg => by repeat rw [upd_ne _ _ hxg]
    | false =>
      cases h13 : (c == 13) with
      | true =>
        try simp (disch := omega) only [hbox, c10, c13, h10, h13, ne_far, ne_far', ne_at, ne_at', far_far, far_at, at_far, lt_far, ↓Wd0, Wr0, Wr1, opnds, ofVal, ofValC, PV.cells, PV.one, PV.fit, partE, setL, pickE, intE, strE, eqC, eqCs, kindOK, aggEqE, binE, unaE, convE, fieldE, faddrE, iaddrE, indexE, loE, sliceE, nilE, fillP, buildE, elemsE, bslE, lenE, appE, stripC, strip1, strip1L, strip, tupV, resV, convT, convN, sliceB, sliceA, sliceO, convB, clearE, appB, lookE, insE, keyOK, rangeE, reduceCtorEq, ↓reduceIte, Nat.reduceAdd, Nat.reduceMul, Nat.reduceSub, Nat.reduceEqDiff, Nat.reduceLeDiff, Nat.reduceBEq, Int.reduceToNat, Nat.reduceLT, Int.reduceBEq, Int.reduceBNe, Int.reduceLT, Int.reduceLE, Int.reduceGT, Int.reduceGE, UInt8.reduceToNat, Int.reduceNeg, Int.reduceAdd, Int.reduceSub, Wt]
        refine endI_c0 (cs := (Rd.cs ⟨b, true, skip, out⟩ z y most alone)) (cells_cons hcz (cells_cons cell_b (cells_cons cell_b (cells_cons cell_i (cells_cons cell_b (cells_cons hcy cells_nil)))))) hgb ?_ ?_
        · repeat first | rw [upd_same] | rw [upd_ne _ _ (by omega)]
          rfl
        · exact fun x hx hxg => by repeat rw [upd_ne _ _ hxg]
      | false =>
        have hs : skip = true := by
          rcases hk with hk | ⟨_, hk⟩
          · exact hk
          · rw [h13] at hk; cases hk
        subst hs
        try simp (disch := omega) only [hbox, c10, c13, h10, h13, ne_far, ne_far', ne_at, ne_at', far_far, far_at, at_far, lt_far, ↓Wd0, Wr0, Wr1, opnds, ofVal, ofValC, PV.cells, PV.one, PV.fit, partE, setL, pickE, intE, strE, eqC, eqCs, kindOK, aggEqE, binE, unaE, convE, fieldE, faddrE, iaddrE, indexE, loE, sliceE, nilE, fillP, buildE, elemsE, bslE, lenE, appE, stripC, strip1, strip1L, strip, tupV, resV, convT, convN, sliceB, sliceA, sliceO, convB, clearE, appB, lookE, insE, keyOK, rangeE, reduceCtorEq, ↓reduceIte, Nat.reduceAdd, Nat.reduceMul, Nat.reduceSub, Nat.reduceEqDiff, Nat.reduceLeDiff, Nat.reduceBEq, Int.reduceToNat, Nat.reduceLT, Int.reduceBEq, Int.reduceBNe, Int.reduceLT, Int.reduceLE, Int.reduceGT, Int.reduceGE, UInt8.reduceToNat, Int.reduceNeg, Int.reduceAdd, Int.reduceSub, Wt]
        refine inD (put_skip ⟨b, false, true, out⟩ g z y most _ c (hn.to rfl rfl) rfl) (Hv.hs (s := ⟨b, false, true, out⟩) (y := y) (z := z) (most := most) (hbg.toHv.set (s' := ⟨b, false, true, out⟩) hn rfl rfl rfl)) ?_
        try simp (disch := omega) only [hbox, c10, c13, h10, h13, ne_far, ne_far', ne_at, ne_at', far_far, far_at, at_far, lt_far, ↓Wd0, Wr0, Wr1, opnds, ofVal, ofValC, PV.cells, PV.one, PV.fit, partE, setL, pickE, intE, strE, eqC, eqCs, kindOK, aggEqE, binE, unaE, convE, fieldE, faddrE, iaddrE, indexE, loE, sliceE, nilE, fillP, buildE, elemsE, bslE, lenE, appE, stripC, strip1, strip1L, strip, tupV, resV, convT, convN, sliceB, sliceA, sliceO, convB, clearE, appB, lookE, insE, keyOK, rangeE, reduceCtorEq, ↓reduceIte, Nat.reduceAdd, Nat.reduceMul, Nat.reduceSub, Nat.reduceEqDiff, Nat.reduceLeDiff, Nat.reduceBEq, Int.reduceToNat, Nat.reduceLT, Int.reduceBEq, Int.reduceBNe, Int.reduceLT, Int.reduceLE, Int.reduceGT, Int.reduceGE, UInt8.reduceToNat, Int.reduceNeg, Int.reduceAdd, Int.reduceSub, Wt]
        refine endI_c0 (cs := (Rd.cs ⟨b, false, true, out⟩ z y most _)) (cells_cons hcz (cells_cons cell_b (cells_cons cell_b (cells_cons cell_i (cells_cons cell_b (cells_cons hcy cells_nil)))))) hgb ?_ ?_
        · repeat first | rw [upd_same] | rw [upd_ne _ _ (by omega)]
          rfl
        · exact fun x hx hxg => by repeat rw [upd_ne _ _ hxg]
  | true =>
    have hs : skip = true := by
      rcases hk with hk | ⟨hk, _⟩
      · exact hk
      · cases hk
    subst hs
    have h10 : (c == 10) = false := by
      cases h : (c == 10) with
      | false => rfl
      | true => exact absurd (noend he h).1 (by simp)
    try simp (disch := omega) only [hbox, c10, c13, h10, ne_far, ne_far', ne_at, ne_at', far_far, far_at, at_far, lt_far, ↓Wd0, Wr0, Wr1, opnds, ofVal, ofValC, PV.cells, PV.one, PV.fit, partE, setL, pickE, intE, strE, eqC, eqCs, kindOK, aggEqE, binE, unaE, convE, fieldE, faddrE, iaddrE, indexE, loE, sliceE, nilE, fillP, buildE, elemsE, bslE, lenE, appE, stripC, strip1, strip1L, strip, tupV, resV, convT, convN, sliceB, sliceA, sliceO, convB, clearE, appB, lookE, insE, keyOK, rangeE, reduceCtorEq, ↓reduceIte, Nat.reduceAdd, Nat.reduceMul, Nat.reduceSub, Nat.reduceEqDiff, Nat.reduceLeDiff, Nat.reduceBEq, Int.reduceToNat, Nat.reduceLT, Int.reduceBEq, Int.reduceBNe, Int.reduceLT, Int.reduceLE, Int.reduceGT, Int.reduceGE, UInt8.reduceToNat, Int.reduceNeg, Int.reduceAdd, Int.reduceSub, Wt]
    refine inD (put_skip ⟨b, true, true, out⟩ g z y most alone 13 (hn.to rfl rfl) rfl) (Hv.hs (s := ⟨b, true, true, out⟩) (y := y) (z := z) (most := most) (alone := alone) hbg.toHv) ?_
    cases h13 : (c == 13) with
    | true =>
      try simp (disch := omega) only [hbox, c10, c13, h10, h13, ne_far, ne_far', ne_at, ne_at', far_far, far_at, at_far, lt_far, ↓Wd0, Wr0, Wr1, opnds, ofVal, ofValC, PV.cells, PV.one, PV.fit, partE, setL, pickE, intE, strE, eqC, eqCs, kindOK, aggEqE, binE, unaE, convE, fieldE, faddrE, iaddrE, indexE, loE, sliceE, nilE, fillP, buildE, elemsE, bslE, lenE, appE, stripC, strip1, strip1L, strip, tupV, resV, convT, convN, sliceB, sliceA, sliceO, convB, clearE, appB, lookE, insE, keyOK, rangeE, reduceCtorEq, ↓reduceIte, Nat.reduceAdd, Nat.reduceMul, Nat.reduceSub, Nat.reduceEqDiff, Nat.reduceLeDiff, Nat.reduceBEq, Int.reduceToNat, Nat.reduceLT, Int.reduceBEq, Int.reduceBNe, Int.reduceLT, Int.reduceLE, Int.reduceGT, Int.reduceGE, UInt8.reduceToNat, Int.reduceNeg, Int.reduceAdd, Int.reduceSub, Wt]
      refine endI_c0 (cs := (Rd.cs ⟨b, true, true, out⟩ z y most alone)) (cells_cons hcz (cells_cons cell_b (cells_cons cell_b (cells_cons cell_i (cells_cons cell_b (cells_cons hcy cells_nil)))))) hgb ?_ ?_
      · repeat first | rw [upd_same] | rw [upd_ne _ _ (by omega)]
        rfl
      · exact fun x hx hxg => by repeat rw [upd_ne _ _ hxg]
    | false =>
      try simp (disch := omega) only [hbox, c10, c13, h10, h13, ne_far, ne_far', ne_at, ne_at', far_far, far_at, at_far, lt_far, ↓Wd0, Wr0, Wr1, opnds, ofVal, ofValC, PV.cells, PV.one, PV.fit, partE, setL, pickE, intE, strE, eqC, eqCs, kindOK, aggEqE, binE, unaE, convE, fieldE, faddrE, iaddrE, indexE, loE, sliceE, nilE, fillP, buildE, elemsE, bslE, lenE, appE, stripC, strip1, strip1L, strip, tupV, resV, convT, convN, sliceB, sliceA, sliceO, convB, clearE, appB, lookE, insE, keyOK, rangeE, reduceCtorEq, ↓reduceIte, Nat.reduceAdd, Nat.reduceMul, Nat.reduceSub, Nat.reduceEqDiff, Nat.reduceLeDiff, Nat.reduceBEq, Int.reduceToNat, Nat.reduceLT, Int.reduceBEq, Int.reduceBNe, Int.reduceLT, Int.reduceLE, Int.reduceGT, Int.reduceGE, UInt8.reduceToNat, Int.reduceNeg, Int.reduceAdd, Int.reduceSub, Wt]
      refine inD (put_skip ⟨b, false, true, out⟩ g z y most _ c (hn.to rfl rfl) rfl) (Hv.hs (s := ⟨b, false, true, out⟩) (y := y) (z := z) (most := most) (hbg.toHv.set (s' := ⟨b, false, true, out⟩) hn rfl rfl rfl)) ?_
      try simp (disch := omega) only [hbox, c10, c13, h10, h13, ne_far, ne_far', ne_at, ne_at', far_far, far_at, at_far, lt_far, ↓Wd0, Wr0, Wr1, opnds, ofVal, ofValC, PV.cells, PV.one, PV.fit, partE, setL, pickE, intE, strE, eqC, eqCs, kindOK, aggEqE, binE, unaE, convE, fieldE, faddrE, iaddrE, indexE, loE, sliceE, nilE, fillP, buildE, elemsE, bslE, lenE, appE, stripC, strip1, strip1L, strip, tupV, resV, convT, convN, sliceB, sliceA, sliceO, convB, clearE, appB, lookE, insE, keyOK, rangeE, reduceCtorEq, ↓reduceIte, Nat.reduceAdd, Nat.reduceMul, Nat.reduceSub, Nat.reduceEqDiff, Nat.reduceLeDiff, Nat.reduceBEq, Int.reduceToNat, Nat.reduceLT, Int.reduceBEq, Int.reduceBNe, Int.reduceLT, Int.reduceLE, Int.reduceGT, Int.reduceGE, UInt8.reduceToNat, Int.reduceNeg, Int.reduceAdd, Int.reduceSub, Wt]
      refine endI_c0 (cs := (Rd.cs ⟨b, false, true, out⟩ z y most _)) (cells_cons hcz (cells_cons cell_b (cells_cons cell_b (cells_cons cell_i (cells_cons cell_b (cells_cons hcy cells_nil)))))) hgb ?_ ?_
      · repeat first | rw [upd_same] | rw [upd_ne _ _ (by omega)]
        rfl
      · exact fun x hx hxg => by repeat rw [upd_ne _ _ hxg]
end Go.Proofs.Ytemlofepmphgiaa
